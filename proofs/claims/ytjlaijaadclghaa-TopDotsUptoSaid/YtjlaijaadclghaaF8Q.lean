/- Printed functions and their walks; no further conditions. -/
import Derived.Test.YtjlaijaadclghaaF0Q
import Derived.Test.YtjlaijaadclghaaF2Q
import Derived.Test.YtjlaijaadclghaaF5Q
namespace Go.Proofs.Ytjlaijaadclghaa.F
open RowKit YtjlaijaadclghaaW PrintWords PrintLast PrintMore
attribute [local go_sem high] xor_u64 xor_u32
attribute [local go_sem] max2_int min2_int max_two min_two max_three min_three max_four min_four
set_option linter.all false
attribute [local go_sem high] eqA100
def twin_Len.f (k : Nat) (a0_0 : Int) (a0_1 : Int) : Option (Int) := if a0_0 > 0 then ((bits_Len64.f k a0_0).bind fun t153 => (some (wrap64 (64 + t153)))) else ((bits_Len64.f k a0_1).bind fun t154 => (some t154))
set_option maxHeartbeats 8000000 in
set_option maxRecDepth 100000 in
theorem twin_Len.calls (k : Nat) (a0_0 : Int) (a0_1 : Int) (r : Int) (w : World) (h : twin_Len.f k a0_0 a0_1 = some r) :
  Calls Try.prog 66 #[.agg #[.int .u64 a0_0, .int .u64 a0_1]] w fun e w' => e = .returned (.int .i64 r) ∧ Below w.heap.size w w' := by
 have hu100 := Try.underlying100
 have HB := Aside0.mk (Below.refl w.heap.size w)
 have H : (if a0_0 > 0 then ((bits_Len64.f k a0_0).bind fun t153 => (some (wrap64 (64 + t153)))) else ((bits_Len64.f k a0_1).bind fun t154 => (some t154))) = some r := h
 clear h
 by_cases c2 : a0_0 > 0
 ·
  rw [if_pos c2] at H
  have c2b0 : decide (0 < a0_0) = true := decide_eq_true c2
  clear c2
  replace H := Option.bind_eq_some_iff.mp H
  obtain ⟨t153, A30, H⟩ := H
  try dsimp -simprocs only at H
  have A3 := Aside0.mk A30
  clear A30
  obtain rfl := Option.some.inj H
  go_enter Try.func66, Try.ntmps66
  go_wp2_with (first | ((with_reducible refine gD (N := 1) rfl ?_); refine bE3 1 #[.int .u64 a0_0, .int .u64 a0_1] 100 ?hr ?_; (case hr => first | (go_simp; done) | (go_simp; rfl)); intro gb152 hg w4 hbox hb; have BK152 := Aside0.mk (hbox); have GW152 := Aside0.mk ((bZ3 hg HB.out)); have GE152 := Aside0.mk ((bZ3 hg HB.out)); replace HB := Aside0.mk (bS3 HB.out hb); clear hb hbox hg; obtain ⟨hcz5_0, hcz5_1, hfz5_0, hfz5_1⟩ := cl2 BK152.out) | ((with_reducible refine gX_ 50 8 rfl rfl ?_); refine goesY_ (some 8) Try.func50 #[.int .u64 a0_0] ?_; (with_reducible refine (bits_Len64.calls k a0_0 t153 _ A3.out).mono ?_); rintro e w' ⟨rfl, ⟨nd, rfl⟩⟩; refine ⟨_, rfl, ?_⟩))
  go_ret
  exact ⟨eR3, bR3 HB.out⟩
 ·
  rw [if_neg c2] at H
  have c2b0 : decide (0 < a0_0) = false := decide_eq_false c2
  clear c2
  replace H := Option.bind_eq_some_iff.mp H
  obtain ⟨t154, A60, H⟩ := H
  try dsimp -simprocs only at H
  have A6 := Aside0.mk A60
  clear A60
  obtain rfl := Option.some.inj H
  go_enter Try.func66, Try.ntmps66
  go_wp2_with (first | ((with_reducible refine gD (N := 1) rfl ?_); refine bE3 1 #[.int .u64 a0_0, .int .u64 a0_1] 100 ?hr ?_; (case hr => first | (go_simp; done) | (go_simp; rfl)); intro gb152 hg w7 hbox hb; have BK152 := Aside0.mk (hbox); have GW152 := Aside0.mk ((bZ3 hg HB.out)); have GE152 := Aside0.mk ((bZ3 hg HB.out)); replace HB := Aside0.mk (bS3 HB.out hb); clear hb hbox hg; obtain ⟨hcz8_0, hcz8_1, hfz8_0, hfz8_1⟩ := cl2 BK152.out) | ((with_reducible refine gX_ 50 12 rfl rfl ?_); refine goesY_ (some 12) Try.func50 #[.int .u64 a0_1] ?_; (with_reducible refine (bits_Len64.calls k a0_1 t154 _ A6.out).mono ?_); rintro e w' ⟨rfl, ⟨nd, rfl⟩⟩; refine ⟨_, rfl, ?_⟩))
  go_ret
  exact ⟨eR3, bR3 HB.out⟩
def twin_shl.f (a0_0 : Int) (a0_1 : Int) (a1 : Int) : Option (Int × Int) := if a1 ≥ 64 then (if 0 ≤ (wrap64 (a1 - 64)) then (some (shl .u64 a0_1 (wrap64 (a1 - 64)), 0)) else (none)) else (if 0 ≤ a1 then (if 0 ≤ (wrap64 (64 - a1)) then (some (Go.bits .or .u64 (shl .u64 a0_0 a1) (shr .u64 a0_1 (wrap64 (64 - a1))), shl .u64 a0_1 a1)) else (none)) else (none))
def twin_shl.T3 : Bool × List (List Nat × List Nat) := (true, [([], []), ([0], [0]), ([], []), ([1, 2], [1, 2]), ([], []), ([4], [4]), ([], []), ([6], [6]), ([5, 7], [5, 7]), ([3, 8], [3, 8]), ([], []), ([10], [10]), ([], []), ([11, 12], [11, 12]), ([9, 13], [9, 13]), ([14, 0, 1, 2, 3, 4, 5, 6, 7, 8, 9, 10, 11, 12, 13, 14], [14])])
def twin_shl.B3 : List Nat := [0, 1, 0, 7, 0, 16, 0, 64, 240, 511, 0, 1024, 0, 7168, 16383, 32767]
theorem twin_shl.tab3 : rtab .any (opsOf Try.f67 3) = twin_shl.T3 := by kernel_rfl
theorem twin_shl.bits3 : waitsOk twin_shl.T3.2 twin_shl.B3 = true := by kernel_rfl
set_option maxHeartbeats 8000000 in
set_option maxRecDepth 100000 in
theorem twin_shl.calls (a0_0 : Int) (a0_1 : Int) (a1 : Int) (r1 : Int) (r2 : Int) (w : World) (h : twin_shl.f a0_0 a0_1 a1 = some (r1, r2)) :
  Calls Try.prog 67 #[.agg #[.int .u64 a0_0, .int .u64 a0_1], .int .i64 a1] w fun e w' => e = .returned (.agg #[.int .u64 r1, .int .u64 r2]) ∧ Below w.heap.size w w' := by
 have hu100 := Try.underlying100
 have HB := Aside0.mk (Below.refl w.heap.size w)
 have H : (if a1 ≥ 64 then (if 0 ≤ (wrap64 (a1 - 64)) then (some (shl .u64 a0_1 (wrap64 (a1 - 64)), 0)) else (none)) else (if 0 ≤ a1 then (if 0 ≤ (wrap64 (64 - a1)) then (some (Go.bits .or .u64 (shl .u64 a0_0 a1) (shr .u64 a0_1 (wrap64 (64 - a1))), shl .u64 a0_1 a1)) else (none)) else (none))) = some (r1, r2) := h
 clear h
 by_cases c3 : a1 ≥ 64
 ·
  rw [if_pos c3] at H
  have c3b0 : decide (64 ≤ a1) = true := decide_eq_true c3
  clear c3
  obtain ⟨ji4, hji4⟩ : ∃ j_ : Int, (wrap64 (a1 - 64)) = j_ := ⟨_, rfl⟩
  replace H : (if 0 ≤ (ji4) then (some (shl .u64 a0_1 (ji4), 0)) else (none)) = some (r1, r2) := by first | (rw [hji4] at H; exact H) | (simp only [hji4] at H ⊢; exact H)
  have hji4w : (IntKind.i64.wrap (a1 - 64)) = ji4 := (i64_w _).trans hji4
  by_cases c5 : 0 ≤ (ji4)
  ·
   rw [if_pos c5] at H
   have c5b0 := eq_true c5
   have c5b1 : decide (0 ≤ (ji4)) = true := decide_eq_true c5
   clear c5
   obtain ⟨ji6, hji6⟩ : ∃ j_ : Int, (shl .u64 a0_1 (ji4)) = j_ := ⟨_, rfl⟩
   replace H : (some (ji6, 0)) = some (r1, r2) := by first | (rw [hji6] at H; exact H) | (simp only [hji6] at H ⊢; exact H)
   have hji6_ : (IntKind.u64.wrap (a0_1 * 2 ^ min (ji4).toNat 64)) = ji6 := hji6
   have hji6z : (ji4) ≤ 64 → (IntKind.u64.wrap (a0_1 * 2 ^ (ji4).toNat)) = ji6 := shl_small hji6
   simp only [Option.some.injEq, Prod.mk.injEq] at H
   obtain ⟨rfl, rfl⟩ := H
   go_enter Try.func67, Try.ntmps67
   go_wp2_with (first | ((with_reducible refine gD (N := 2) rfl ?_); refine bE3 2 #[.int .u64 a0_0, .int .u64 a0_1] 100 ?hr ?_; (case hr => first | (go_simp; done) | (go_simp; rfl)); intro gb155 hg w7 hbox hb; have BK155 := Aside0.mk (hbox); have GW155 := Aside0.mk ((bZ3 hg HB.out)); have GE155 := Aside0.mk ((bZ3 hg HB.out)); replace HB := Aside0.mk (bS3 HB.out hb); clear hb hbox hg) | ((with_reducible refine gD (N := 4) rfl ?_); refine bE3 4 #[.int .u64 0, .int .u64 0] 100 ?hr ?_; (case hr => first | (go_simp; done) | (go_simp; rfl)); intro gb156 hg w8 hbox hb; have BK156 := Aside0.mk (hbox); have GW156 := Aside0.mk ((bZ3 hg HB.out)); have GE156 := Aside0.mk ((bZ3 hg HB.out)); replace HB := Aside0.mk (bS3 HB.out hb); have NB155_156 := Aside0.mk ((bL3 hg BK155.out)); have NB156_155 := Aside0.mk ((bG3 hg BK155.out)); replace BK155 := Aside0.mk (bB3 BK155.out hb); clear hb hbox hg; have hnb9 := NB155_156.out; have hnc9 := NB156_155.out; obtain ⟨hcz10_0, hcz10_1, hfz10_0, hfz10_1⟩ := cl2 BK155.out; obtain ⟨hcz11_0, hcz11_1, hfz11_0, hfz11_1⟩ := cl2 BK156.out))
   refine bodyPost_ret (results_cell_row rfl _ _ gb156 100 #[.int .u64 ji6, .int .u64 0] (0, 0) _ rfl (bQ3 BK156.out) Try.underlying100 rfl (by kernel_rfl)) rfl ?_
   exact ⟨by first | rfl | (simp [errW_none, errW_some] <;> rfl) | (simp only [← hji4, ← hji6]; first | rfl | (simp [errW_none, errW_some] <;> rfl)) | (simp [*, errW_none, errW_some] <;> rfl), bR3 HB.out⟩
  ·
   rw [if_neg c5] at H
   exact absurd H (by simp)
 ·
  rw [if_neg c3] at H
  have c3b0 : decide (64 ≤ a1) = false := decide_eq_false c3
  clear c3
  by_cases c12 : 0 ≤ a1
  ·
   rw [if_pos c12] at H
   have c12b0 := eq_true c12
   have c12b1 : decide (0 ≤ a1) = true := decide_eq_true c12
   clear c12
   obtain ⟨ji13, hji13⟩ : ∃ j_ : Int, (shl .u64 a0_0 a1) = j_ := ⟨_, rfl⟩
   replace H : (if 0 ≤ (wrap64 (64 - a1)) then (some (Go.bits .or .u64 (ji13) (shr .u64 a0_1 (wrap64 (64 - a1))), shl .u64 a0_1 a1)) else (none)) = some (r1, r2) := by first | (rw [hji13] at H; exact H) | (simp only [hji13] at H ⊢; exact H)
   have hji13_ : (IntKind.u64.wrap (a0_0 * 2 ^ min a1.toNat 64)) = ji13 := hji13
   have hji13z : a1 ≤ 64 → (IntKind.u64.wrap (a0_0 * 2 ^ a1.toNat)) = ji13 := shl_small hji13
   obtain ⟨ji14, hji14⟩ : ∃ j_ : Int, (wrap64 (64 - a1)) = j_ := ⟨_, rfl⟩
   replace H : (if 0 ≤ (ji14) then (some (Go.bits .or .u64 (ji13) (shr .u64 a0_1 (ji14)), shl .u64 a0_1 a1)) else (none)) = some (r1, r2) := by first | (rw [hji14] at H; exact H) | (simp only [hji14] at H ⊢; exact H)
   have hji14w : (IntKind.i64.wrap (64 - a1)) = ji14 := (i64_w _).trans hji14
   by_cases c15 : 0 ≤ (ji14)
   ·
    rw [if_pos c15] at H
    have c15b0 := eq_true c15
    have c15b1 : decide (0 ≤ (ji14)) = true := decide_eq_true c15
    clear c15
    obtain ⟨ji16, hji16⟩ : ∃ j_ : Int, (shr .u64 a0_1 (ji14)) = j_ := ⟨_, rfl⟩
    replace H : (some (Go.bits .or .u64 (ji13) (ji16), shl .u64 a0_1 a1)) = some (r1, r2) := by first | (rw [hji16] at H; exact H) | (simp only [hji16] at H ⊢; exact H)
    have hji16_ : (a0_1 / 2 ^ min (ji14).toNat 64) = ji16 := hji16
    have hji16z : (ji14) ≤ 64 → (a0_1 / 2 ^ (ji14).toNat) = ji16 := shr_small hji16
    have c17b0 := eq_true (of_decide_eq_true (by first | (with_reducible assumption) | assumption) : 0 ≤ a1)
    obtain ⟨ji18, hji18⟩ : ∃ j_ : Int, (shl .u64 a0_1 a1) = j_ := ⟨_, rfl⟩
    replace H : (some (Go.bits .or .u64 (ji13) (ji16), ji18)) = some (r1, r2) := by first | (rw [hji18] at H; exact H) | (simp only [hji18] at H ⊢; exact H)
    have hji18_ : (IntKind.u64.wrap (a0_1 * 2 ^ min a1.toNat 64)) = ji18 := hji18
    have hji18z : a1 ≤ 64 → (IntKind.u64.wrap (a0_1 * 2 ^ a1.toNat)) = ji18 := shl_small hji18
    simp only [Option.some.injEq, Prod.mk.injEq] at H
    obtain ⟨rfl, rfl⟩ := H
    go_enter Try.func67, Try.ntmps67
    try go_wp2_with (first | ((with_reducible refine gD (N := 2) rfl ?_); refine bE3 2 #[.int .u64 a0_0, .int .u64 a0_1] 100 ?hr ?_; (case hr => first | (go_simp; done) | (go_simp; rfl)); intro gb155 hg w19 hbox hb; have BK155 := Aside0.mk (hbox); have GW155 := Aside0.mk ((bZ3 hg HB.out)); have GE155 := Aside0.mk ((bZ3 hg HB.out)); replace HB := Aside0.mk (bS3 HB.out hb); clear hb hbox hg) | ((with_reducible refine gD (N := 4) rfl ?_); refine bE3 4 #[.int .u64 0, .int .u64 0] 100 ?hr ?_; (case hr => first | (go_simp; done) | (go_simp; rfl)); intro gb156 hg w20 hbox hb; have BK156 := Aside0.mk (hbox); have GW156 := Aside0.mk ((bZ3 hg HB.out)); have GE156 := Aside0.mk ((bZ3 hg HB.out)); replace HB := Aside0.mk (bS3 HB.out hb); have NB155_156 := Aside0.mk ((bL3 hg BK155.out)); have NB156_155 := Aside0.mk ((bG3 hg BK155.out)); replace BK155 := Aside0.mk (bB3 BK155.out hb); clear hb hbox hg))
    have n0_ := Aside0.mk (bD BK155.out)
    have n1_ := Aside0.mk (bD BK156.out)
    have n2_ := Aside0.mk (p1 HB.out)
    clear BK155
    clear BK156
    clear HB
    have BK155 := n0_
    have BK156 := n1_
    have HB := n2_
    clear n0_ n1_ n2_
    refine start_ (n := 16) (S := fun w' => w'.cell? ⟨gb155, 0, none⟩ = some (.int .u64 a0_0) ∧ w'.cell? ⟨gb155, 1, none⟩ = some (.int .u64 a0_1)) (ds := []) #[false, false, false, false, false, false, false, false, false, false, false, false, false, false, false, false] (by kernel_rfl) rfl rfl ⟨(blk_cell BK155.out 0).trans rfl, (blk_cell BK155.out 1).trans rfl⟩ (fun hHeld => ?_); refine with_tabW twin_shl.tab3 twin_shl.bits3 (fun HT_ HW_ => ?_)
    generalize w20.drew = w21 at BK155 BK156 HB hHeld ⊢
    refine pure_ (i := 0) (N := some 13) (v := ?_) (a' := ?_) #[true, false, false, false, false, false, false, false, false, false, false, false, false, false, false, false] rfl rfl (any_of HT_.out (by kernel_rfl)) (fun _ _ _ h => h) (Or.inl ⟨by rfl, ?_⟩) ?_ ?_
    rotate_left
    ·
     intro w'
     go_simp
     with_reducible rfl
    rotate_left
    ·
     simp only [Act.put, lS_, lZ_, lC_, i64_w, i32_w]
     rfl
    refine pure_ (i := 2) (N := some 15) (v := ?_) (a' := ?_) #[true, false, true, false, false, false, false, false, false, false, false, false, false, false, false, false] rfl rfl (any_of HT_.out (by kernel_rfl)) (fun _ _ _ h => h) (Or.inl ⟨by rfl, ?_⟩) ?_ ?_
    rotate_left
    ·
     intro w'
     go_simp
     with_reducible rfl
    rotate_left
    ·
     simp only [Act.put, lS_, lZ_, lC_, i64_w, i32_w]
     rfl
    refine pure_ (i := 4) (N := some 17) (v := ?_) (a' := ?_) #[true, false, true, false, true, false, false, false, false, false, false, false, false, false, false, false] rfl rfl (any_of HT_.out (by kernel_rfl)) (fun _ _ _ h => h) (Or.inl ⟨by rfl, ?_⟩) ?_ ?_
    rotate_left
    ·
     intro w'
     go_simp
     with_reducible rfl
    rotate_left
    ·
     simp only [Act.put, lS_, lZ_, lC_, i64_w, i32_w]
     rfl
    refine pure_ (i := 6) (N := some 19) (v := ?_) (a' := ?_) #[true, false, true, false, true, false, true, false, false, false, false, false, false, false, false, false] rfl rfl (any_of HT_.out (by kernel_rfl)) (fun _ _ _ h => h) (Or.inl ⟨by rfl, ?_⟩) ?_ ?_
    rotate_left
    ·
     intro w'
     go_simp
     with_reducible rfl
    rotate_left
    ·
     simp only [Act.put, lS_, lZ_, lC_, i64_w, i32_w]
     rfl
    refine pure_ (i := 7) (N := some 20) (v := ?_) (a' := ?_) #[true, false, true, false, true, false, true, true, false, false, false, false, false, false, false, false] rfl rfl (any_of HT_.out (by kernel_rfl)) (fun _ _ _ h => h) (Or.inl ⟨by rfl, ?_⟩) ?_ ?_
    rotate_left
    ·
     intro w'
     go_simp
     with_reducible rfl
    rotate_left
    ·
     simp only [Act.put, lS_, lZ_, lC_, i64_w, i32_w]
     rfl
    refine pure_ (i := 10) (N := some 23) (v := ?_) (a' := ?_) #[true, false, true, false, true, false, true, true, false, false, true, false, false, false, false, false] rfl rfl (any_of HT_.out (by kernel_rfl)) (fun _ _ _ h => h) (Or.inl ⟨by rfl, ?_⟩) ?_ ?_
    rotate_left
    ·
     intro w'
     go_simp
     with_reducible rfl
    rotate_left
    ·
     simp only [Act.put, lS_, lZ_, lC_, i64_w, i32_w]
     rfl
    refine pure_ (i := 12) (N := some 25) (v := ?_) (a' := ?_) #[true, false, true, false, true, false, true, true, false, false, true, false, true, false, false, false] rfl rfl (any_of HT_.out (by kernel_rfl)) (fun _ _ _ h => h) (Or.inl ⟨by rfl, ?_⟩) ?_ ?_
    rotate_left
    ·
     intro w'
     go_simp
     with_reducible rfl
    rotate_left
    ·
     simp only [Act.put, lS_, lZ_, lC_, i64_w, i32_w]
     rfl
    refine take_ (i := 1) (N := some 14) (v := ?_) (a' := ?_) #[true, true, true, false, true, false, true, true, false, false, true, false, true, false, false, false] rfl rfl (take_ofW HT_.out HW_.out (by kernel_rfl)) (fun _ _ _ h => h) (Or.inl ⟨by rfl, ?_⟩) hHeld ?_ ?_
    rotate_left
    ·
     rintro w' ⟨s0, s1⟩
     go_simp
     with_reducible rfl
    rotate_left
    ·
     simp only [Act.put, lS_, lZ_, lC_, i64_w, i32_w]
     rfl
    refine pure_ (i := 3) (N := some 16) (v := ?_) (a' := ?_) #[true, true, true, true, true, false, true, true, false, false, true, false, true, false, false, false] rfl rfl (any_of HT_.out (by kernel_rfl)) (fun _ _ _ h => h) (Or.inl ⟨by rfl, ?_⟩) ?_ ?_
    rotate_left
    ·
     intro w'
     go_simp
     with_reducible rfl
    rotate_left
    ·
     simp only [Act.put, lS_, lZ_, lC_, i64_w, i32_w]
     rfl
    refine take_ (i := 5) (N := some 18) (v := ?_) (a' := ?_) #[true, true, true, true, true, true, true, true, false, false, true, false, true, false, false, false] rfl rfl (take_ofW HT_.out HW_.out (by kernel_rfl)) (fun _ _ _ h => h) (Or.inl ⟨by rfl, ?_⟩) hHeld ?_ ?_
    rotate_left
    ·
     rintro w' ⟨s0, s1⟩
     go_simp
     with_reducible rfl
    rotate_left
    ·
     simp only [Act.put, lS_, lZ_, lC_, i64_w, i32_w]
     rfl
    refine pure_ (i := 8) (N := some 21) (v := ?_) (a' := ?_) #[true, true, true, true, true, true, true, true, true, false, true, false, true, false, false, false] rfl rfl (any_of HT_.out (by kernel_rfl)) (fun _ _ _ h => h) (Or.inl ⟨by rfl, ?_⟩) ?_ ?_
    rotate_left
    ·
     intro w'
     go_simp
     with_reducible rfl
    rotate_left
    ·
     simp only [Act.put, lS_, lZ_, lC_, i64_w, i32_w]
     rfl
    refine pure_ (i := 9) (N := some 22) (v := ?_) (a' := ?_) #[true, true, true, true, true, true, true, true, true, true, true, false, true, false, false, false] rfl rfl (any_of HT_.out (by kernel_rfl)) (fun _ _ _ h => h) (Or.inl ⟨by rfl, ?_⟩) ?_ ?_
    rotate_left
    ·
     intro w'
     go_simp
     with_reducible rfl
    rotate_left
    ·
     simp only [Act.put, lS_, lZ_, lC_, i64_w, i32_w]
     rfl
    refine take_ (i := 11) (N := some 24) (v := ?_) (a' := ?_) #[true, true, true, true, true, true, true, true, true, true, true, true, true, false, false, false] rfl rfl (take_ofW HT_.out HW_.out (by kernel_rfl)) (fun _ _ _ h => h) (Or.inl ⟨by rfl, ?_⟩) hHeld ?_ ?_
    rotate_left
    ·
     rintro w' ⟨s0, s1⟩
     go_simp
     with_reducible rfl
    rotate_left
    ·
     simp only [Act.put, lS_, lZ_, lC_, i64_w, i32_w]
     rfl
    refine pure_ (i := 13) (N := some 26) (v := ?_) (a' := ?_) #[true, true, true, true, true, true, true, true, true, true, true, true, true, true, false, false] rfl rfl (any_of HT_.out (by kernel_rfl)) (fun _ _ _ h => h) (Or.inl ⟨by rfl, ?_⟩) ?_ ?_
    rotate_left
    ·
     intro w'
     go_simp
     with_reducible rfl
    rotate_left
    ·
     simp only [Act.put, lS_, lZ_, lC_, i64_w, i32_w]
     rfl
    refine pure_ (i := 14) (N := some 27) (v := ?_) (a' := ?_) #[true, true, true, true, true, true, true, true, true, true, true, true, true, true, true, false] rfl rfl (any_of HT_.out (by kernel_rfl)) (fun _ _ _ h => h) (Or.inl ⟨by rfl, ?_⟩) ?_ ?_
    rotate_left
    ·
     intro w'
     go_simp
     with_reducible rfl
    rotate_left
    ·
     simp only [Act.put, lS_, lZ_, lC_, i64_w, i32_w]
     rfl
    refine one_ (i := 15) (N := none) #[true, true, true, true, true, true, true, true, true, true, true, true, true, true, true, true] rfl rfl (one_of HT_.out (by kernel_rfl)) (by decide) (fun K hK => ?_)
    have hs22 : w21.cell? ⟨gb156, 0, none⟩ = some (.int .u64 0) := (blk_cell BK156.out 0).trans rfl
    have hfs22 := blk_frozen BK156.out 0
    have hns22_0 := NB155_156.out
    have hms22_0 := NB156_155.out
    have hs23 : w21.cell? ⟨gb156, 1, none⟩ = some (.int .u64 0) := (blk_cell BK156.out 1).trans rfl
    have hfs23 := blk_frozen BK156.out 1
    have hns23_0 := NB155_156.out
    have hms23_0 := NB156_155.out
    refine skip_ (w1 := ?_) (by rfl) rfl ?_ ?_
    rotate_left
    ·
     go_simp
     rfl
    refine hK.out _ _ ⟨((cell_far (p := ⟨gb156, _, none⟩) NB155_156.out _).trans (((cell_far (p := ⟨gb156, _, none⟩) NB155_156.out _).trans (hHeld.1)))), ((cell_far (p := ⟨gb156, _, none⟩) NB155_156.out _).trans (((cell_far (p := ⟨gb156, _, none⟩) NB155_156.out _).trans (hHeld.2))))⟩ (fun hHeld => ?_)
    clear hK K
    refine done_ (done_of HT_.out (by kernel_rfl)) ?_
    try go_wp2
    refine bodyPost_ret (results_cell_row rfl _ _ gb156 100 #[.int .u64 (Go.bits .or .u64 (ji13) (ji16)), .int .u64 ji18] (0, 0) _ rfl (bQ3 BK156.out) Try.underlying100 rfl (by kernel_rfl)) rfl ?_
    exact ⟨by first | rfl | (simp [errW_none, errW_some] <;> rfl) | (simp only [← hji13, ← hji14, ← hji16, ← hji18]; first | rfl | (simp [errW_none, errW_some] <;> rfl)) | (simp [*, errW_none, errW_some] <;> rfl), bR3 HB.out⟩
   ·
    rw [if_neg c15] at H
    exact absurd H (by simp)
  ·
   rw [if_neg c12] at H
   exact absurd H (by simp)
def twin_Norm.f (k : Nat) (a0_0 : Int) (a0_1 : Int) : Option (Int × Int × Int) := if (a0_0 == 0 && (a0_1 == 0)) = true then (some (a0_0, a0_1, 0)) else ((twin_Len.f k a0_0 a0_1).bind fun t159 => ((twin_shl.f a0_0 a0_1 (wrap64 (128 - t159))).bind fun bt160 => (some (bt160.1, bt160.2, wrap64 (128 - t159)))))
set_option maxHeartbeats 8000000 in
set_option maxRecDepth 100000 in
theorem twin_Norm.calls (k : Nat) (a0_0 : Int) (a0_1 : Int) (r1 : Int) (r2 : Int) (r3 : Int) (w : World) (h : twin_Norm.f k a0_0 a0_1 = some (r1, r2, r3)) :
  Calls Try.prog 51 #[.agg #[.int .u64 a0_0, .int .u64 a0_1]] w fun e w' => e = .returned (.tuple #[.agg #[.int .u64 r1, .int .u64 r2], .int .i64 r3]) ∧ Below w.heap.size w w' := by
 have hu100 := Try.underlying100
 have HB := Aside0.mk (Below.refl w.heap.size w)
 have H : (if (a0_0 == 0 && (a0_1 == 0)) = true then (some (a0_0, a0_1, 0)) else ((twin_Len.f k a0_0 a0_1).bind fun t159 => ((twin_shl.f a0_0 a0_1 (wrap64 (128 - t159))).bind fun bt160 => (some (bt160.1, bt160.2, wrap64 (128 - t159)))))) = some (r1, r2, r3) := h
 clear h
 by_cases c2 : (a0_0 == 0 && (a0_1 == 0)) = true
 ·
  rw [if_pos c2] at H
  have c2b0 : (a0_0 == 0 && (a0_1 == 0)) = true := c2
  (try (have c2b1 : decide (a0_0 = 0 && (a0_1 == 0)) = true := by simpa using c2))
  (try (have c2b2 : (a0_0 == 0 && (a0_1 == 0)) = true := by simpa using c2))
  clear c2
  simp only [Option.some.injEq, Prod.mk.injEq] at H
  obtain ⟨rfl, rfl, rfl⟩ := H
  go_enter Try.func51, Try.ntmps51
  go_wp2_with (first | ((with_reducible refine gD (N := 1) rfl ?_); refine bE3 1 #[.int .u64 a0_0, .int .u64 a0_1] 100 ?hr ?_; (case hr => first | (go_simp; done) | (go_simp; rfl)); intro gb157 hg w3 hbox hb; have BK157 := Aside0.mk (hbox); have GW157 := Aside0.mk ((bZ3 hg HB.out)); have GE157 := Aside0.mk ((bZ3 hg HB.out)); replace HB := Aside0.mk (bS3 HB.out hb); clear hb hbox hg) | ((with_reducible refine gD (N := 2) rfl ?_); refine bE3 2 #[.int .u64 0, .int .u64 0] 100 ?hr ?_; (case hr => first | (go_simp; done) | (go_simp; rfl)); intro gb158 hg w4 hbox hb; have BK158 := Aside0.mk (hbox); have GW158 := Aside0.mk ((bZ3 hg HB.out)); have GE158 := Aside0.mk ((bZ3 hg HB.out)); replace HB := Aside0.mk (bS3 HB.out hb); have NB157_158 := Aside0.mk ((bL3 hg BK157.out)); have NB158_157 := Aside0.mk ((bG3 hg BK157.out)); replace BK157 := Aside0.mk (bB3 BK157.out hb); clear hb hbox hg; have hnb5 := NB157_158.out; have hnc5 := NB158_157.out; obtain ⟨hcz6_0, hcz6_1, hfz6_0, hfz6_1⟩ := cl2 BK157.out; obtain ⟨hcz7_0, hcz7_1, hfz7_0, hfz7_1⟩ := cl2 BK158.out))
  refine bodyPost_ret (results_ct rfl _ _ gb158 100 #[.int .u64 a0_0, .int .u64 a0_1] (0, 0) _ rfl (bQ3 BK158.out) Try.underlying100 rfl (by kernel_rfl)) rfl ?_
  exact ⟨eR3, bR3 HB.out⟩
 ·
  rw [if_neg c2] at H
  have c2b0 : (a0_0 == 0 && (a0_1 == 0)) = false := by simpa using c2
  (try (have c2b1 : decide (a0_0 = 0 && (a0_1 == 0)) = false := by simpa using c2))
  (try (have c2b2 : (a0_0 == 0 && (a0_1 == 0)) = false := by simpa using c2))
  (try (have c2b3 : ¬ (a0_0 = 0 && (a0_1 == 0)) := by simpa using c2))
  clear c2
  replace H := Option.bind_eq_some_iff.mp H
  obtain ⟨t159, A80, H⟩ := H
  try dsimp -simprocs only at H
  have A8 := Aside0.mk A80
  clear A80
  replace H := Option.bind_eq_some_iff.mp H
  obtain ⟨⟨t160, t161⟩, A90, H⟩ := H
  try dsimp -simprocs only at H
  have A9 := Aside0.mk A90
  clear A90
  simp only [Option.some.injEq, Prod.mk.injEq] at H
  obtain ⟨rfl, rfl, rfl⟩ := H
  go_enter Try.func51, Try.ntmps51
  go_wp2_with (first | ((with_reducible refine gD (N := 1) rfl ?_); refine bE3 1 #[.int .u64 a0_0, .int .u64 a0_1] 100 ?hr ?_; (case hr => first | (go_simp; done) | (go_simp; rfl)); intro gb157 hg w10 hbox hb; have BK157 := Aside0.mk (hbox); have GW157 := Aside0.mk ((bZ3 hg HB.out)); have GE157 := Aside0.mk ((bZ3 hg HB.out)); replace HB := Aside0.mk (bS3 HB.out hb); clear hb hbox hg) | ((with_reducible refine gD (N := 2) rfl ?_); refine bE3 2 #[.int .u64 0, .int .u64 0] 100 ?hr ?_; (case hr => first | (go_simp; done) | (go_simp; rfl)); intro gb158 hg w11 hbox hb; have BK158 := Aside0.mk (hbox); have GW158 := Aside0.mk ((bZ3 hg HB.out)); have GE158 := Aside0.mk ((bZ3 hg HB.out)); replace HB := Aside0.mk (bS3 HB.out hb); have NB157_158 := Aside0.mk ((bL3 hg BK157.out)); have NB158_157 := Aside0.mk ((bG3 hg BK157.out)); replace BK157 := Aside0.mk (bB3 BK157.out hb); clear hb hbox hg; have hnb12 := NB157_158.out; have hnc12 := NB158_157.out; obtain ⟨hcz13_0, hcz13_1, hfz13_0, hfz13_1⟩ := cl2 BK157.out) | ((with_reducible refine gX_ 66 10 rfl rfl ?_); refine goesY_ (some 10) Try.func66 #[.agg #[.int .u64 a0_0, .int .u64 a0_1]] ?_; (with_reducible refine (twin_Len.calls k a0_0 a0_1 t159 _ A8.out).mono ?_); rintro e w14 ⟨rfl, hb⟩; refine ⟨_, rfl, ?_⟩; replace BK157 := Aside0.mk (bB3 BK157.out hb); replace BK158 := Aside0.mk (bB3 BK158.out hb); replace HB := Aside0.mk (bS3 HB.out hb); (try clear hb); (try clear hk); obtain ⟨hcz15_0, hcz15_1, hfz15_0, hfz15_1⟩ := cl2 BK157.out) | ((with_reducible refine gX_ 67 14 rfl rfl ?_); refine goesY_ (some 14) Try.func67 #[.agg #[.int .u64 a0_0, .int .u64 a0_1], .int .i64 (wrap64 (128 - t159))] ?_; (with_reducible refine (twin_shl.calls a0_0 a0_1 (wrap64 (128 - t159)) t160 t161 _ A9.out).mono ?_); rintro e w16 ⟨rfl, hb⟩; refine ⟨_, rfl, ?_⟩; replace BK157 := Aside0.mk (bB3 BK157.out hb); replace BK158 := Aside0.mk (bB3 BK158.out hb); replace HB := Aside0.mk (bS3 HB.out hb); (try clear hb); (try clear hk); obtain ⟨hcz17_0, hcz17_1, hfz17_0, hfz17_1⟩ := cl2 BK158.out))
  refine bodyPost_ret (results_ct rfl _ _ gb158 100 #[.int .u64 t160, .int .u64 t161] (0, 0) _ rfl (bQ3 BK158.out) Try.underlying100 rfl (by kernel_rfl)) rfl ?_
  exact ⟨eR3, bR3 HB.out⟩
def twin_Shl.f (k : Nat) (a0_0 : Int) (a0_1 : Int) (a1 : Int) : Option (Int × Int × Bool × Option Int) := if a1 < 0 then (some (0, 0, false, some 1)) else ((twin_shl.f a0_0 a0_1 (mn a1 128)).bind fun bt174 => ((twin_Len.f k a0_0 a0_1).bind fun t176 => (some (bt174.1, bt174.2, decide (t176 > (wrap64 (128 - (mn a1 128)))), none))))
def twin_Shl.T4 : Bool × List (List Nat × List Nat) := (true, [([], []), ([], []), ([0, 1], [0, 1]), ([], []), ([3, 2], [3]), ([], []), ([5], [5]), ([4, 6], [4, 6]), ([2, 4, 0, 1, 2], [2]), ([7, 8, 0, 1, 2, 3, 4, 5, 6, 7, 8], [7]), ([9, 0, 1, 2, 3, 4, 5, 6, 7, 8, 9], [])])
def twin_Shl.B4 : List Nat := [0, 0, 3, 0, 15, 0, 32, 127, 31, 511, 1023]
theorem twin_Shl.tab4 : rtab .any (opsOf Try.f70 4) = twin_Shl.T4 := by kernel_rfl
theorem twin_Shl.bits4 : waitsOk twin_Shl.T4.2 twin_Shl.B4 = true := by kernel_rfl
set_option maxHeartbeats 8000000 in
set_option maxRecDepth 100000 in
theorem twin_Shl.calls (k : Nat) (a0_0 : Int) (a0_1 : Int) (a1 : Int) (r1 : Int) (r2 : Int) (r3 : Bool) (r4 : Option Int) (w : World) (h : twin_Shl.f k a0_0 a0_1 a1 = some (r1, r2, r3, r4)) :
  Calls Try.prog 70 #[.agg #[.int .u64 a0_0, .int .u64 a0_1], .int .i64 a1] w fun e w' => e = .returned (.tuple #[.agg #[.int .u64 r1, .int .u64 r2], .bool r3, errW r4]) ∧ Below w.heap.size w w' := by
 have hu100 := Try.underlying100
 have hu25 := Try.underlying25
 have hu29 := Try.underlying29
 have HB := Aside0.mk (Below.refl w.heap.size w)
 have H : (if a1 < 0 then (some (0, 0, false, some 1)) else ((twin_shl.f a0_0 a0_1 (mn a1 128)).bind fun bt174 => ((twin_Len.f k a0_0 a0_1).bind fun t176 => (some (bt174.1, bt174.2, decide (t176 > (wrap64 (128 - (mn a1 128)))), none))))) = some (r1, r2, r3, r4) := h
 clear h
 by_cases c3 : a1 < 0
 ·
  rw [if_pos c3] at H
  have c3b0 : decide (a1 < 0) = true := decide_eq_true c3
  clear c3
  simp only [Option.some.injEq, Prod.mk.injEq] at H
  obtain ⟨rfl, rfl, rfl, rfl⟩ := H
  go_enter Try.func70, Try.ntmps70
  go_wp2_with (first | ((with_reducible refine gD (N := 2) rfl ?_); refine bE3 2 #[.int .u64 a0_0, .int .u64 a0_1] 100 ?hr ?_; (case hr => first | (go_simp; done) | (go_simp; rfl)); intro gb172 hg w4 hbox hb; have BK172 := Aside0.mk (hbox); have GW172 := Aside0.mk ((bZ3 hg HB.out)); have GE172 := Aside0.mk ((bZ3 hg HB.out)); replace HB := Aside0.mk (bS3 HB.out hb); clear hb hbox hg) | ((with_reducible refine gD (N := 4) rfl ?_); refine bE3 4 #[.int .u64 0, .int .u64 0] 100 ?hr ?_; (case hr => first | (go_simp; done) | (go_simp; rfl)); intro gb173 hg w5 hbox hb; have BK173 := Aside0.mk (hbox); have GW173 := Aside0.mk ((bZ3 hg HB.out)); have GE173 := Aside0.mk ((bZ3 hg HB.out)); replace HB := Aside0.mk (bS3 HB.out hb); have NB172_173 := Aside0.mk ((bL3 hg BK172.out)); have NB173_172 := Aside0.mk ((bG3 hg BK172.out)); replace BK172 := Aside0.mk (bB3 BK172.out hb); clear hb hbox hg; have hnb6 := NB173_172.out; have hnc6 := NB172_173.out; obtain ⟨hcz7_0, hcz7_1, hfz7_0, hfz7_1⟩ := cl2 BK173.out))
  refine bodyPost_ret (results_ctt rfl _ _ gb173 100 #[.int .u64 0, .int .u64 0] (0, 0) _ rfl (bQ3 BK173.out) Try.underlying100 rfl (by kernel_rfl)) rfl ?_
  exact ⟨eR3, bR3 HB.out⟩
 ·
  rw [if_neg c3] at H
  have c3b0 : decide (a1 < 0) = false := decide_eq_false c3
  clear c3
  obtain ⟨ji8, hji8⟩ : ∃ j_ : Int, (mn a1 128) = j_ := ⟨_, rfl⟩
  replace H : ((twin_shl.f a0_0 a0_1 (ji8)).bind fun bt174 => ((twin_Len.f k a0_0 a0_1).bind fun t176 => (some (bt174.1, bt174.2, decide (t176 > (wrap64 (128 - (ji8)))), none)))) = some (r1, r2, r3, r4) := by first | (rw [hji8] at H; exact H) | (simp only [hji8] at H ⊢; exact H)
  (try (have hji8h : ji8 ≤ 128 := by (rw [← hji8]; unfold mn; (repeat' split) <;> omega)))
  (try (have hji8g : ji8 ≤ 64 := by omega))
  have hji8_ : (if 128 < a1 then 128 else a1) = ji8 := hji8
  replace H := Option.bind_eq_some_iff.mp H
  obtain ⟨⟨t174, t175⟩, A90, H⟩ := H
  try dsimp -simprocs only at H
  have A9 := Aside0.mk A90
  clear A90
  replace H := Option.bind_eq_some_iff.mp H
  obtain ⟨t176, A100, H⟩ := H
  try dsimp -simprocs only at H
  have A10 := Aside0.mk A100
  clear A100
  simp only [Option.some.injEq, Prod.mk.injEq] at H
  obtain ⟨rfl, rfl, rfl, rfl⟩ := H
  go_enter Try.func70, Try.ntmps70
  try go_wp2_with (first | ((with_reducible refine gD (N := 2) rfl ?_); refine bE3 2 #[.int .u64 a0_0, .int .u64 a0_1] 100 ?hr ?_; (case hr => first | (go_simp; done) | (go_simp; rfl)); intro gb172 hg w11 hbox hb; have BK172 := Aside0.mk (hbox); have GW172 := Aside0.mk ((bZ3 hg HB.out)); have GE172 := Aside0.mk ((bZ3 hg HB.out)); replace HB := Aside0.mk (bS3 HB.out hb); clear hb hbox hg) | ((with_reducible refine gD (N := 4) rfl ?_); refine bE3 4 #[.int .u64 0, .int .u64 0] 100 ?hr ?_; (case hr => first | (go_simp; done) | (go_simp; rfl)); intro gb173 hg w12 hbox hb; have BK173 := Aside0.mk (hbox); have GW173 := Aside0.mk ((bZ3 hg HB.out)); have GE173 := Aside0.mk ((bZ3 hg HB.out)); replace HB := Aside0.mk (bS3 HB.out hb); have NB172_173 := Aside0.mk ((bL3 hg BK172.out)); have NB173_172 := Aside0.mk ((bG3 hg BK172.out)); replace BK172 := Aside0.mk (bB3 BK172.out hb); clear hb hbox hg))
  have n0_ := Aside0.mk (bD BK172.out)
  have n1_ := Aside0.mk (bD BK173.out)
  have n2_ := Aside0.mk (p1 HB.out)
  clear BK172
  clear BK173
  clear HB
  have BK172 := n0_
  have BK173 := n1_
  have HB := n2_
  clear n0_ n1_ n2_
  refine start_ (n := 11) (S := fun w' => w'.cell? ⟨gb172, 0, none⟩ = some (.int .u64 a0_0) ∧ w'.cell? ⟨gb172, 1, none⟩ = some (.int .u64 a0_1)) (ds := []) #[false, false, false, false, false, false, false, false, false, false, false] (by kernel_rfl) rfl rfl ⟨(blk_cell BK172.out 0).trans rfl, (blk_cell BK172.out 1).trans rfl⟩ (fun hHeld => ?_); refine with_tabW twin_Shl.tab4 twin_Shl.bits4 (fun HT_ HW_ => ?_)
  generalize w12.drew = w13 at BK172 BK173 HB hHeld ⊢
  refine pure_ (i := 1) (N := some 14) (v := ?_) (a' := ?_) #[false, true, false, false, false, false, false, false, false, false, false] rfl rfl (any_of HT_.out (by kernel_rfl)) (fun _ _ _ h => h) (Or.inl ⟨by rfl, ?_⟩) ?_ ?_
  rotate_left
  ·
   intro w'
   go_simp
   with_reducible rfl
  rotate_left
  ·
   simp only [Act.put, lS_, lZ_, lC_, i64_w, i32_w]
   rfl
  refine pure_ (i := 5) (N := some 18) (v := ?_) (a' := ?_) #[false, true, false, false, false, true, false, false, false, false, false] rfl rfl (any_of HT_.out (by kernel_rfl)) (fun _ _ _ h => h) (Or.inl ⟨by rfl, ?_⟩) ?_ ?_
  rotate_left
  ·
   intro w'
   go_simp
   with_reducible rfl
  rotate_left
  ·
   simp only [Act.put, lS_, lZ_, lC_, i64_w, i32_w]
   rfl
  refine pure_ (i := 6) (N := some 19) (v := ?_) (a' := ?_) #[false, true, false, false, false, true, true, false, false, false, false] rfl rfl (any_of HT_.out (by kernel_rfl)) (fun _ _ _ h => h) (Or.inl ⟨by rfl, ?_⟩) ?_ ?_
  rotate_left
  ·
   intro w'
   go_simp
   with_reducible rfl
  rotate_left
  ·
   simp only [Act.put, lS_, lZ_, lC_, i64_w, i32_w]
   rfl
  refine take_ (i := 0) (N := some 13) (v := ?_) (a' := ?_) #[true, true, false, false, false, true, true, false, false, false, false] rfl rfl (take_ofW HT_.out HW_.out (by kernel_rfl)) (fun _ _ _ h => h) (Or.inl ⟨by rfl, ?_⟩) hHeld ?_ ?_
  rotate_left
  ·
   rintro w' ⟨s0, s1⟩
   go_simp
   with_reducible rfl
  rotate_left
  ·
   simp only [Act.put, lS_, lZ_, lC_, i64_w, i32_w]
   rfl
  refine take_ (i := 3) (N := some 16) (v := ?_) (a' := ?_) #[true, true, false, true, false, true, true, false, false, false, false] rfl rfl (take_ofW HT_.out HW_.out (by kernel_rfl)) (fun _ _ _ h => h) (Or.inl ⟨by rfl, ?_⟩) hHeld ?_ ?_
  rotate_left
  ·
   rintro w' ⟨s0, s1⟩
   go_simp
   with_reducible rfl
  rotate_left
  ·
   simp only [Act.put, lS_, lZ_, lC_, i64_w, i32_w]
   rfl
  refine one_ (i := 2) (N := some 15) #[true, true, true, true, false, true, true, false, false, false, false] rfl rfl (one_of HT_.out (by kernel_rfl)) (by decide) (fun K hK => ?_)
  refine goes_ Try.func67 (by kernel_rfl) rfl #[.agg #[.int .u64 a0_0, .int .u64 a0_1], .int .i64 ji8] (by rfl) rfl rfl (by (try simp only [List.map_toArray, List.map_cons, List.map_nil]); first | done | (simp only [hji8]; rfl) | rfl | (simp only [List.length_drop, List.length_take]; rfl)) ?_
  with_reducible refine (twin_shl.calls a0_0 a0_1 ji8 t174 t175 _ A9.out).mono ?_
  rintro e w14 ⟨rfl, hb⟩
  refine ⟨_, rfl, ?_⟩
  have n0_ := Aside0.mk (bB3 BK172.out hb)
  have n1_ := Aside0.mk (bB3 BK173.out hb)
  have n2_ := Aside0.mk (bS3 HB.out hb)
  clear BK172
  clear BK173
  clear HB
  have BK172 := n0_
  have BK173 := n1_
  have HB := n2_
  clear n0_ n1_ n2_
  (try clear hb)
  (try clear hb2)
  (try clear hk)
  (try clear hi)
  refine hK.out _ _ ⟨(blk_cell BK172.out 0).trans rfl, (blk_cell BK172.out 1).trans rfl⟩ (fun hHeld => ?_)
  clear hK K
  refine norm_ (a' := ?_) ?_ ?_
  rotate_left
  ·
   show Act.put _ (some 15) _ = _
   simp only [Act.put, lS_, lZ_, lC_, i64_w, i32_w]
   rfl
  refine one_ (i := 4) (N := some 17) #[true, true, true, true, true, true, true, false, false, false, false] rfl rfl (one_of HT_.out (by kernel_rfl)) (by decide) (fun K hK => ?_)
  refine goes_ Try.func66 (by kernel_rfl) rfl #[.agg #[.int .u64 a0_0, .int .u64 a0_1]] (by rfl) rfl rfl (by (try simp only [List.map_toArray, List.map_cons, List.map_nil]); first | done | rfl | (simp only [List.length_drop, List.length_take]; rfl)) ?_
  with_reducible refine (twin_Len.calls k a0_0 a0_1 t176 _ A10.out).mono ?_
  rintro e w15 ⟨rfl, hb⟩
  refine ⟨_, rfl, ?_⟩
  have n0_ := Aside0.mk (bB3 BK172.out hb)
  have n1_ := Aside0.mk (bB3 BK173.out hb)
  have n2_ := Aside0.mk (bS3 HB.out hb)
  clear BK172
  clear BK173
  clear HB
  have BK172 := n0_
  have BK173 := n1_
  have HB := n2_
  clear n0_ n1_ n2_
  (try clear hb)
  (try clear hb2)
  (try clear hk)
  (try clear hi)
  refine hK.out _ _ ⟨(blk_cell BK172.out 0).trans rfl, (blk_cell BK172.out 1).trans rfl⟩ (fun hHeld => ?_)
  clear hK K
  refine norm_ (a' := ?_) ?_ ?_
  rotate_left
  ·
   show Act.put _ (some 17) _ = _
   simp only [Act.put, lS_, lZ_, lC_, i64_w, i32_w]
   rfl
  refine pure_ (i := 7) (N := some 20) (v := ?_) (a' := ?_) #[true, true, true, true, true, true, true, true, false, false, false] rfl rfl (any_of HT_.out (by kernel_rfl)) (fun _ _ _ h => h) (Or.inl ⟨by rfl, ?_⟩) ?_ ?_
  rotate_left
  ·
   intro w'
   go_simp
   with_reducible rfl
  rotate_left
  ·
   simp only [Act.put, lS_, lZ_, lC_, i64_w, i32_w]
   rfl
  refine one_ (i := 8) (N := none) #[true, true, true, true, true, true, true, true, true, false, false] rfl rfl (one_of HT_.out (by kernel_rfl)) (by decide) (fun K hK => ?_)
  have hs16 : w15.cell? ⟨gb173, 0, none⟩ = some (.int .u64 0) := (blk_cell BK173.out 0).trans rfl
  have hfs16 := blk_frozen BK173.out 0
  have hns16_0 := NB172_173.out
  have hms16_0 := NB173_172.out
  have hs17 : w15.cell? ⟨gb173, 1, none⟩ = some (.int .u64 0) := (blk_cell BK173.out 1).trans rfl
  have hfs17 := blk_frozen BK173.out 1
  have hns17_0 := NB172_173.out
  have hms17_0 := NB173_172.out
  refine skip_ (w1 := ?_) (by rfl) rfl ?_ ?_
  rotate_left
  ·
   go_simp
   rfl
  refine hK.out _ _ ⟨((cell_far (p := ⟨gb173, _, none⟩) NB172_173.out _).trans (((cell_far (p := ⟨gb173, _, none⟩) NB172_173.out _).trans (hHeld.1)))), ((cell_far (p := ⟨gb173, _, none⟩) NB172_173.out _).trans (((cell_far (p := ⟨gb173, _, none⟩) NB172_173.out _).trans (hHeld.2))))⟩ (fun hHeld => ?_)
  clear hK K
  refine pure_ (i := 9) (N := some 5) (v := ?_) (a' := ?_) #[true, true, true, true, true, true, true, true, true, true, false] rfl rfl (any_of HT_.out (by kernel_rfl)) (fun _ _ _ h => h) (Or.inl ⟨by rfl, ?_⟩) ?_ ?_
  rotate_left
  ·
   intro w'
   go_simp
   with_reducible rfl
  rotate_left
  ·
   simp only [Act.put, lS_, lZ_, lC_, i64_w, i32_w]
   rfl
  refine pure_ (i := 10) (N := some 6) (v := ?_) (a' := ?_) #[true, true, true, true, true, true, true, true, true, true, true] rfl rfl (any_of HT_.out (by kernel_rfl)) (fun _ _ _ h => h) (Or.inl ⟨by rfl, ?_⟩) ?_ ?_
  rotate_left
  ·
   intro w'
   go_simp
   with_reducible rfl
  rotate_left
  ·
   simp only [Act.put, lS_, lZ_, lC_, i64_w, i32_w]
   rfl
  refine done_ (done_of HT_.out (by kernel_rfl)) ?_
  try go_wp2
  refine bodyPost_ret (results_ctt rfl _ _ gb173 100 #[.int .u64 t174, .int .u64 t175] (0, 0) _ rfl (bQ3 BK173.out) Try.underlying100 rfl (by kernel_rfl)) rfl ?_
  exact ⟨by first | rfl | (simp [errW_none, errW_some] <;> rfl) | (simp only [← hji8]; first | rfl | (simp [errW_none, errW_some] <;> rfl)) | (simp [*, errW_none, errW_some] <;> rfl), bR3 HB.out⟩
def twin_shr.f (a0_0 : Int) (a0_1 : Int) (a1 : Int) : Option (Int × Int) := if a1 ≥ 64 then (if 0 ≤ (wrap64 (a1 - 64)) then (some (0, shr .u64 a0_0 (wrap64 (a1 - 64)))) else (none)) else (if 0 ≤ a1 then (if 0 ≤ (wrap64 (64 - a1)) then (some (shr .u64 a0_0 a1, Go.bits .or .u64 (shr .u64 a0_1 a1) (shl .u64 a0_0 (wrap64 (64 - a1))))) else (none)) else (none))
def twin_shr.T3 : Bool × List (List Nat × List Nat) := (true, [([], []), ([0], [0]), ([], []), ([1, 2], [1, 2]), ([], []), ([4], [4]), ([], []), ([5, 6], [5, 6]), ([], []), ([8], [8]), ([], []), ([10], [10]), ([9, 11], [9, 11]), ([7, 12], [7, 12]), ([3, 13], [3, 13]), ([14, 0, 1, 2, 3, 4, 5, 6, 7, 8, 9, 10, 11, 12, 13, 14], [14])])
def twin_shr.B3 : List Nat := [0, 1, 0, 7, 0, 16, 0, 112, 0, 256, 0, 1024, 3840, 8176, 16383, 32767]
theorem twin_shr.tab3 : rtab .any (opsOf Try.f80 3) = twin_shr.T3 := by kernel_rfl
theorem twin_shr.bits3 : waitsOk twin_shr.T3.2 twin_shr.B3 = true := by kernel_rfl
set_option maxHeartbeats 8000000 in
set_option maxRecDepth 100000 in
theorem twin_shr.calls (a0_0 : Int) (a0_1 : Int) (a1 : Int) (r1 : Int) (r2 : Int) (w : World) (h : twin_shr.f a0_0 a0_1 a1 = some (r1, r2)) :
  Calls Try.prog 80 #[.agg #[.int .u64 a0_0, .int .u64 a0_1], .int .i64 a1] w fun e w' => e = .returned (.agg #[.int .u64 r1, .int .u64 r2]) ∧ Below w.heap.size w w' := by
 have hu100 := Try.underlying100
 have HB := Aside0.mk (Below.refl w.heap.size w)
 have H : (if a1 ≥ 64 then (if 0 ≤ (wrap64 (a1 - 64)) then (some (0, shr .u64 a0_0 (wrap64 (a1 - 64)))) else (none)) else (if 0 ≤ a1 then (if 0 ≤ (wrap64 (64 - a1)) then (some (shr .u64 a0_0 a1, Go.bits .or .u64 (shr .u64 a0_1 a1) (shl .u64 a0_0 (wrap64 (64 - a1))))) else (none)) else (none))) = some (r1, r2) := h
 clear h
 by_cases c3 : a1 ≥ 64
 ·
  rw [if_pos c3] at H
  have c3b0 : decide (64 ≤ a1) = true := decide_eq_true c3
  clear c3
  obtain ⟨ji4, hji4⟩ : ∃ j_ : Int, (wrap64 (a1 - 64)) = j_ := ⟨_, rfl⟩
  replace H : (if 0 ≤ (ji4) then (some (0, shr .u64 a0_0 (ji4))) else (none)) = some (r1, r2) := by first | (rw [hji4] at H; exact H) | (simp only [hji4] at H ⊢; exact H)
  have hji4w : (IntKind.i64.wrap (a1 - 64)) = ji4 := (i64_w _).trans hji4
  by_cases c5 : 0 ≤ (ji4)
  ·
   rw [if_pos c5] at H
   have c5b0 := eq_true c5
   have c5b1 : decide (0 ≤ (ji4)) = true := decide_eq_true c5
   clear c5
   obtain ⟨ji6, hji6⟩ : ∃ j_ : Int, (shr .u64 a0_0 (ji4)) = j_ := ⟨_, rfl⟩
   replace H : (some (0, ji6)) = some (r1, r2) := by first | (rw [hji6] at H; exact H) | (simp only [hji6] at H ⊢; exact H)
   have hji6_ : (a0_0 / 2 ^ min (ji4).toNat 64) = ji6 := hji6
   have hji6z : (ji4) ≤ 64 → (a0_0 / 2 ^ (ji4).toNat) = ji6 := shr_small hji6
   simp only [Option.some.injEq, Prod.mk.injEq] at H
   obtain ⟨rfl, rfl⟩ := H
   go_enter Try.func80, Try.ntmps80
   go_wp2_with (first | ((with_reducible refine gD (N := 2) rfl ?_); refine bE3 2 #[.int .u64 a0_0, .int .u64 a0_1] 100 ?hr ?_; (case hr => first | (go_simp; done) | (go_simp; rfl)); intro gb177 hg w7 hbox hb; have BK177 := Aside0.mk (hbox); have GW177 := Aside0.mk ((bZ3 hg HB.out)); have GE177 := Aside0.mk ((bZ3 hg HB.out)); replace HB := Aside0.mk (bS3 HB.out hb); clear hb hbox hg) | ((with_reducible refine gD (N := 4) rfl ?_); refine bE3 4 #[.int .u64 0, .int .u64 0] 100 ?hr ?_; (case hr => first | (go_simp; done) | (go_simp; rfl)); intro gb178 hg w8 hbox hb; have BK178 := Aside0.mk (hbox); have GW178 := Aside0.mk ((bZ3 hg HB.out)); have GE178 := Aside0.mk ((bZ3 hg HB.out)); replace HB := Aside0.mk (bS3 HB.out hb); have NB177_178 := Aside0.mk ((bL3 hg BK177.out)); have NB178_177 := Aside0.mk ((bG3 hg BK177.out)); replace BK177 := Aside0.mk (bB3 BK177.out hb); clear hb hbox hg; have hnb9 := NB177_178.out; have hnc9 := NB178_177.out; obtain ⟨hcz10_0, hcz10_1, hfz10_0, hfz10_1⟩ := cl2 BK177.out; obtain ⟨hcz11_0, hcz11_1, hfz11_0, hfz11_1⟩ := cl2 BK178.out))
   refine bodyPost_ret (results_cell_row rfl _ _ gb178 100 #[.int .u64 0, .int .u64 ji6] (0, 0) _ rfl (bQ3 BK178.out) Try.underlying100 rfl (by kernel_rfl)) rfl ?_
   exact ⟨by first | rfl | (simp [errW_none, errW_some] <;> rfl) | (simp only [← hji4, ← hji6]; first | rfl | (simp [errW_none, errW_some] <;> rfl)) | (simp [*, errW_none, errW_some] <;> rfl), bR3 HB.out⟩
  ·
   rw [if_neg c5] at H
   exact absurd H (by simp)
 ·
  rw [if_neg c3] at H
  have c3b0 : decide (64 ≤ a1) = false := decide_eq_false c3
  clear c3
  by_cases c12 : 0 ≤ a1
  ·
   rw [if_pos c12] at H
   have c12b0 := eq_true c12
   have c12b1 : decide (0 ≤ a1) = true := decide_eq_true c12
   clear c12
   obtain ⟨ji13, hji13⟩ : ∃ j_ : Int, (shr .u64 a0_0 a1) = j_ := ⟨_, rfl⟩
   replace H : (if 0 ≤ (wrap64 (64 - a1)) then (some (ji13, Go.bits .or .u64 (shr .u64 a0_1 a1) (shl .u64 a0_0 (wrap64 (64 - a1))))) else (none)) = some (r1, r2) := by first | (rw [hji13] at H; exact H) | (simp only [hji13] at H ⊢; exact H)
   have hji13_ : (a0_0 / 2 ^ min a1.toNat 64) = ji13 := hji13
   have hji13z : a1 ≤ 64 → (a0_0 / 2 ^ a1.toNat) = ji13 := shr_small hji13
   have c14b0 := eq_true (of_decide_eq_true (by first | (with_reducible assumption) | assumption) : 0 ≤ a1)
   obtain ⟨ji15, hji15⟩ : ∃ j_ : Int, (shr .u64 a0_1 a1) = j_ := ⟨_, rfl⟩
   replace H : (if 0 ≤ (wrap64 (64 - a1)) then (some (ji13, Go.bits .or .u64 (ji15) (shl .u64 a0_0 (wrap64 (64 - a1))))) else (none)) = some (r1, r2) := by first | (rw [hji15] at H; exact H) | (simp only [hji15] at H ⊢; exact H)
   have hji15_ : (a0_1 / 2 ^ min a1.toNat 64) = ji15 := hji15
   have hji15z : a1 ≤ 64 → (a0_1 / 2 ^ a1.toNat) = ji15 := shr_small hji15
   obtain ⟨ji16, hji16⟩ : ∃ j_ : Int, (wrap64 (64 - a1)) = j_ := ⟨_, rfl⟩
   replace H : (if 0 ≤ (ji16) then (some (ji13, Go.bits .or .u64 (ji15) (shl .u64 a0_0 (ji16)))) else (none)) = some (r1, r2) := by first | (rw [hji16] at H; exact H) | (simp only [hji16] at H ⊢; exact H)
   have hji16w : (IntKind.i64.wrap (64 - a1)) = ji16 := (i64_w _).trans hji16
   by_cases c17 : 0 ≤ (ji16)
   ·
    rw [if_pos c17] at H
    have c17b0 := eq_true c17
    have c17b1 : decide (0 ≤ (ji16)) = true := decide_eq_true c17
    clear c17
    obtain ⟨ji18, hji18⟩ : ∃ j_ : Int, (shl .u64 a0_0 (ji16)) = j_ := ⟨_, rfl⟩
    replace H : (some (ji13, Go.bits .or .u64 (ji15) (ji18))) = some (r1, r2) := by first | (rw [hji18] at H; exact H) | (simp only [hji18] at H ⊢; exact H)
    have hji18_ : (IntKind.u64.wrap (a0_0 * 2 ^ min (ji16).toNat 64)) = ji18 := hji18
    have hji18z : (ji16) ≤ 64 → (IntKind.u64.wrap (a0_0 * 2 ^ (ji16).toNat)) = ji18 := shl_small hji18
    simp only [Option.some.injEq, Prod.mk.injEq] at H
    obtain ⟨rfl, rfl⟩ := H
    go_enter Try.func80, Try.ntmps80
    try go_wp2_with (first | ((with_reducible refine gD (N := 2) rfl ?_); refine bE3 2 #[.int .u64 a0_0, .int .u64 a0_1] 100 ?hr ?_; (case hr => first | (go_simp; done) | (go_simp; rfl)); intro gb177 hg w19 hbox hb; have BK177 := Aside0.mk (hbox); have GW177 := Aside0.mk ((bZ3 hg HB.out)); have GE177 := Aside0.mk ((bZ3 hg HB.out)); replace HB := Aside0.mk (bS3 HB.out hb); clear hb hbox hg) | ((with_reducible refine gD (N := 4) rfl ?_); refine bE3 4 #[.int .u64 0, .int .u64 0] 100 ?hr ?_; (case hr => first | (go_simp; done) | (go_simp; rfl)); intro gb178 hg w20 hbox hb; have BK178 := Aside0.mk (hbox); have GW178 := Aside0.mk ((bZ3 hg HB.out)); have GE178 := Aside0.mk ((bZ3 hg HB.out)); replace HB := Aside0.mk (bS3 HB.out hb); have NB177_178 := Aside0.mk ((bL3 hg BK177.out)); have NB178_177 := Aside0.mk ((bG3 hg BK177.out)); replace BK177 := Aside0.mk (bB3 BK177.out hb); clear hb hbox hg))
    have n0_ := Aside0.mk (bD BK177.out)
    have n1_ := Aside0.mk (bD BK178.out)
    have n2_ := Aside0.mk (p1 HB.out)
    clear BK177
    clear BK178
    clear HB
    have BK177 := n0_
    have BK178 := n1_
    have HB := n2_
    clear n0_ n1_ n2_
    refine start_ (n := 16) (S := fun w' => w'.cell? ⟨gb177, 0, none⟩ = some (.int .u64 a0_0) ∧ w'.cell? ⟨gb177, 1, none⟩ = some (.int .u64 a0_1)) (ds := []) #[false, false, false, false, false, false, false, false, false, false, false, false, false, false, false, false] (by kernel_rfl) rfl rfl ⟨(blk_cell BK177.out 0).trans rfl, (blk_cell BK177.out 1).trans rfl⟩ (fun hHeld => ?_); refine with_tabW twin_shr.tab3 twin_shr.bits3 (fun HT_ HW_ => ?_)
    generalize w20.drew = w21 at BK177 BK178 HB hHeld ⊢
    refine pure_ (i := 0) (N := some 13) (v := ?_) (a' := ?_) #[true, false, false, false, false, false, false, false, false, false, false, false, false, false, false, false] rfl rfl (any_of HT_.out (by kernel_rfl)) (fun _ _ _ h => h) (Or.inl ⟨by rfl, ?_⟩) ?_ ?_
    rotate_left
    ·
     intro w'
     go_simp
     with_reducible rfl
    rotate_left
    ·
     simp only [Act.put, lS_, lZ_, lC_, i64_w, i32_w]
     rfl
    refine pure_ (i := 2) (N := some 15) (v := ?_) (a' := ?_) #[true, false, true, false, false, false, false, false, false, false, false, false, false, false, false, false] rfl rfl (any_of HT_.out (by kernel_rfl)) (fun _ _ _ h => h) (Or.inl ⟨by rfl, ?_⟩) ?_ ?_
    rotate_left
    ·
     intro w'
     go_simp
     with_reducible rfl
    rotate_left
    ·
     simp only [Act.put, lS_, lZ_, lC_, i64_w, i32_w]
     rfl
    refine pure_ (i := 4) (N := some 17) (v := ?_) (a' := ?_) #[true, false, true, false, true, false, false, false, false, false, false, false, false, false, false, false] rfl rfl (any_of HT_.out (by kernel_rfl)) (fun _ _ _ h => h) (Or.inl ⟨by rfl, ?_⟩) ?_ ?_
    rotate_left
    ·
     intro w'
     go_simp
     with_reducible rfl
    rotate_left
    ·
     simp only [Act.put, lS_, lZ_, lC_, i64_w, i32_w]
     rfl
    refine pure_ (i := 6) (N := some 19) (v := ?_) (a' := ?_) #[true, false, true, false, true, false, true, false, false, false, false, false, false, false, false, false] rfl rfl (any_of HT_.out (by kernel_rfl)) (fun _ _ _ h => h) (Or.inl ⟨by rfl, ?_⟩) ?_ ?_
    rotate_left
    ·
     intro w'
     go_simp
     with_reducible rfl
    rotate_left
    ·
     simp only [Act.put, lS_, lZ_, lC_, i64_w, i32_w]
     rfl
    refine pure_ (i := 8) (N := some 21) (v := ?_) (a' := ?_) #[true, false, true, false, true, false, true, false, true, false, false, false, false, false, false, false] rfl rfl (any_of HT_.out (by kernel_rfl)) (fun _ _ _ h => h) (Or.inl ⟨by rfl, ?_⟩) ?_ ?_
    rotate_left
    ·
     intro w'
     go_simp
     with_reducible rfl
    rotate_left
    ·
     simp only [Act.put, lS_, lZ_, lC_, i64_w, i32_w]
     rfl
    refine pure_ (i := 10) (N := some 23) (v := ?_) (a' := ?_) #[true, false, true, false, true, false, true, false, true, false, true, false, false, false, false, false] rfl rfl (any_of HT_.out (by kernel_rfl)) (fun _ _ _ h => h) (Or.inl ⟨by rfl, ?_⟩) ?_ ?_
    rotate_left
    ·
     intro w'
     go_simp
     with_reducible rfl
    rotate_left
    ·
     simp only [Act.put, lS_, lZ_, lC_, i64_w, i32_w]
     rfl
    refine pure_ (i := 11) (N := some 24) (v := ?_) (a' := ?_) #[true, false, true, false, true, false, true, false, true, false, true, true, false, false, false, false] rfl rfl (any_of HT_.out (by kernel_rfl)) (fun _ _ _ h => h) (Or.inl ⟨by rfl, ?_⟩) ?_ ?_
    rotate_left
    ·
     intro w'
     go_simp
     with_reducible rfl
    rotate_left
    ·
     simp only [Act.put, lS_, lZ_, lC_, i64_w, i32_w]
     rfl
    refine take_ (i := 1) (N := some 14) (v := ?_) (a' := ?_) #[true, true, true, false, true, false, true, false, true, false, true, true, false, false, false, false] rfl rfl (take_ofW HT_.out HW_.out (by kernel_rfl)) (fun _ _ _ h => h) (Or.inl ⟨by rfl, ?_⟩) hHeld ?_ ?_
    rotate_left
    ·
     rintro w' ⟨s0, s1⟩
     go_simp
     with_reducible rfl
    rotate_left
    ·
     simp only [Act.put, lS_, lZ_, lC_, i64_w, i32_w]
     rfl
    refine pure_ (i := 3) (N := some 16) (v := ?_) (a' := ?_) #[true, true, true, true, true, false, true, false, true, false, true, true, false, false, false, false] rfl rfl (any_of HT_.out (by kernel_rfl)) (fun _ _ _ h => h) (Or.inl ⟨by rfl, ?_⟩) ?_ ?_
    rotate_left
    ·
     intro w'
     go_simp
     with_reducible rfl
    rotate_left
    ·
     simp only [Act.put, lS_, lZ_, lC_, i64_w, i32_w]
     rfl
    refine take_ (i := 5) (N := some 18) (v := ?_) (a' := ?_) #[true, true, true, true, true, true, true, false, true, false, true, true, false, false, false, false] rfl rfl (take_ofW HT_.out HW_.out (by kernel_rfl)) (fun _ _ _ h => h) (Or.inl ⟨by rfl, ?_⟩) hHeld ?_ ?_
    rotate_left
    ·
     rintro w' ⟨s0, s1⟩
     go_simp
     with_reducible rfl
    rotate_left
    ·
     simp only [Act.put, lS_, lZ_, lC_, i64_w, i32_w]
     rfl
    refine pure_ (i := 7) (N := some 20) (v := ?_) (a' := ?_) #[true, true, true, true, true, true, true, true, true, false, true, true, false, false, false, false] rfl rfl (any_of HT_.out (by kernel_rfl)) (fun _ _ _ h => h) (Or.inl ⟨by rfl, ?_⟩) ?_ ?_
    rotate_left
    ·
     intro w'
     go_simp
     with_reducible rfl
    rotate_left
    ·
     simp only [Act.put, lS_, lZ_, lC_, i64_w, i32_w]
     rfl
    refine take_ (i := 9) (N := some 22) (v := ?_) (a' := ?_) #[true, true, true, true, true, true, true, true, true, true, true, true, false, false, false, false] rfl rfl (take_ofW HT_.out HW_.out (by kernel_rfl)) (fun _ _ _ h => h) (Or.inl ⟨by rfl, ?_⟩) hHeld ?_ ?_
    rotate_left
    ·
     rintro w' ⟨s0, s1⟩
     go_simp
     with_reducible rfl
    rotate_left
    ·
     simp only [Act.put, lS_, lZ_, lC_, i64_w, i32_w]
     rfl
    refine pure_ (i := 12) (N := some 25) (v := ?_) (a' := ?_) #[true, true, true, true, true, true, true, true, true, true, true, true, true, false, false, false] rfl rfl (any_of HT_.out (by kernel_rfl)) (fun _ _ _ h => h) (Or.inl ⟨by rfl, ?_⟩) ?_ ?_
    rotate_left
    ·
     intro w'
     go_simp
     with_reducible rfl
    rotate_left
    ·
     simp only [Act.put, lS_, lZ_, lC_, i64_w, i32_w]
     rfl
    refine pure_ (i := 13) (N := some 26) (v := ?_) (a' := ?_) #[true, true, true, true, true, true, true, true, true, true, true, true, true, true, false, false] rfl rfl (any_of HT_.out (by kernel_rfl)) (fun _ _ _ h => h) (Or.inl ⟨by rfl, ?_⟩) ?_ ?_
    rotate_left
    ·
     intro w'
     go_simp
     with_reducible rfl
    rotate_left
    ·
     simp only [Act.put, lS_, lZ_, lC_, i64_w, i32_w]
     rfl
    refine pure_ (i := 14) (N := some 27) (v := ?_) (a' := ?_) #[true, true, true, true, true, true, true, true, true, true, true, true, true, true, true, false] rfl rfl (any_of HT_.out (by kernel_rfl)) (fun _ _ _ h => h) (Or.inl ⟨by rfl, ?_⟩) ?_ ?_
    rotate_left
    ·
     intro w'
     go_simp
     with_reducible rfl
    rotate_left
    ·
     simp only [Act.put, lS_, lZ_, lC_, i64_w, i32_w]
     rfl
    refine one_ (i := 15) (N := none) #[true, true, true, true, true, true, true, true, true, true, true, true, true, true, true, true] rfl rfl (one_of HT_.out (by kernel_rfl)) (by decide) (fun K hK => ?_)
    have hs22 : w21.cell? ⟨gb178, 0, none⟩ = some (.int .u64 0) := (blk_cell BK178.out 0).trans rfl
    have hfs22 := blk_frozen BK178.out 0
    have hns22_0 := NB177_178.out
    have hms22_0 := NB178_177.out
    have hs23 : w21.cell? ⟨gb178, 1, none⟩ = some (.int .u64 0) := (blk_cell BK178.out 1).trans rfl
    have hfs23 := blk_frozen BK178.out 1
    have hns23_0 := NB177_178.out
    have hms23_0 := NB178_177.out
    refine skip_ (w1 := ?_) (by rfl) rfl ?_ ?_
    rotate_left
    ·
     go_simp
     rfl
    refine hK.out _ _ ⟨((cell_far (p := ⟨gb178, _, none⟩) NB177_178.out _).trans (((cell_far (p := ⟨gb178, _, none⟩) NB177_178.out _).trans (hHeld.1)))), ((cell_far (p := ⟨gb178, _, none⟩) NB177_178.out _).trans (((cell_far (p := ⟨gb178, _, none⟩) NB177_178.out _).trans (hHeld.2))))⟩ (fun hHeld => ?_)
    clear hK K
    refine done_ (done_of HT_.out (by kernel_rfl)) ?_
    try go_wp2
    refine bodyPost_ret (results_cell_row rfl _ _ gb178 100 #[.int .u64 ji13, .int .u64 (Go.bits .or .u64 (ji15) (ji18))] (0, 0) _ rfl (bQ3 BK178.out) Try.underlying100 rfl (by kernel_rfl)) rfl ?_
    exact ⟨by first | rfl | (simp [errW_none, errW_some] <;> rfl) | (simp only [← hji13, ← hji15, ← hji16, ← hji18]; first | rfl | (simp [errW_none, errW_some] <;> rfl)) | (simp [*, errW_none, errW_some] <;> rfl), bR3 HB.out⟩
   ·
    rw [if_neg c17] at H
    exact absurd H (by simp)
  ·
   rw [if_neg c12] at H
   exact absurd H (by simp)
def twin_Shr.f (a0_0 : Int) (a0_1 : Int) (a1 : Int) : Option (Int × Int × Bool × Option Int) := if a1 < 0 then (some (0, 0, false, some 1)) else ((twin_shr.f a0_0 a0_1 (mn a1 128)).bind fun bt181 => ((twin_shl.f bt181.1 bt181.2 (mn a1 128)).bind fun bt184 => (some (bt181.1, bt181.2, (!(bt184.1 == a0_0) || (!(bt184.2 == a0_1))), none))))
def twin_Shr.T5 : Bool × List (List Nat × List Nat) := (true, [([], []), ([], []), ([], []), ([1, 2], [1, 2]), ([], []), ([3, 4], [3, 4]), ([0, 3, 0], [0]), ([5, 6, 0, 1, 2, 3, 4, 5, 6], [5]), ([7, 0, 1, 2, 3, 4, 5, 6, 7], [])])
def twin_Shr.B5 : List Nat := [0, 0, 0, 6, 0, 30, 15, 127, 255]
theorem twin_Shr.tab5 : rtab .any (opsOf Try.f79 5) = twin_Shr.T5 := by kernel_rfl
theorem twin_Shr.bits5 : waitsOk twin_Shr.T5.2 twin_Shr.B5 = true := by kernel_rfl
set_option maxHeartbeats 8000000 in
set_option maxRecDepth 100000 in
theorem twin_Shr.calls (a0_0 : Int) (a0_1 : Int) (a1 : Int) (r1 : Int) (r2 : Int) (r3 : Bool) (r4 : Option Int) (w : World) (h : twin_Shr.f a0_0 a0_1 a1 = some (r1, r2, r3, r4)) :
  Calls Try.prog 79 #[.agg #[.int .u64 a0_0, .int .u64 a0_1], .int .i64 a1] w fun e w' => e = .returned (.tuple #[.agg #[.int .u64 r1, .int .u64 r2], .bool r3, errW r4]) ∧ Below w.heap.size w w' := by
 have hu100 := Try.underlying100
 have hu25 := Try.underlying25
 have hu29 := Try.underlying29
 have HB := Aside0.mk (Below.refl w.heap.size w)
 have H : (if a1 < 0 then (some (0, 0, false, some 1)) else ((twin_shr.f a0_0 a0_1 (mn a1 128)).bind fun bt181 => ((twin_shl.f bt181.1 bt181.2 (mn a1 128)).bind fun bt184 => (some (bt181.1, bt181.2, (!(bt184.1 == a0_0) || (!(bt184.2 == a0_1))), none))))) = some (r1, r2, r3, r4) := h
 clear h
 by_cases c3 : a1 < 0
 ·
  rw [if_pos c3] at H
  have c3b0 : decide (a1 < 0) = true := decide_eq_true c3
  clear c3
  simp only [Option.some.injEq, Prod.mk.injEq] at H
  obtain ⟨rfl, rfl, rfl, rfl⟩ := H
  go_enter Try.func79, Try.ntmps79
  go_wp2_with (first | ((with_reducible refine gD (N := 2) rfl ?_); refine bE3 2 #[.int .u64 a0_0, .int .u64 a0_1] 100 ?hr ?_; (case hr => first | (go_simp; done) | (go_simp; rfl)); intro gb179 hg w4 hbox hb; have BK179 := Aside0.mk (hbox); have GW179 := Aside0.mk ((bZ3 hg HB.out)); have GE179 := Aside0.mk ((bZ3 hg HB.out)); replace HB := Aside0.mk (bS3 HB.out hb); clear hb hbox hg) | ((with_reducible refine gD (N := 4) rfl ?_); refine bE3 4 #[.int .u64 0, .int .u64 0] 100 ?hr ?_; (case hr => first | (go_simp; done) | (go_simp; rfl)); intro gb180 hg w5 hbox hb; have BK180 := Aside0.mk (hbox); have GW180 := Aside0.mk ((bZ3 hg HB.out)); have GE180 := Aside0.mk ((bZ3 hg HB.out)); replace HB := Aside0.mk (bS3 HB.out hb); have NB179_180 := Aside0.mk ((bL3 hg BK179.out)); have NB180_179 := Aside0.mk ((bG3 hg BK179.out)); replace BK179 := Aside0.mk (bB3 BK179.out hb); clear hb hbox hg; have hnb6 := NB180_179.out; have hnc6 := NB179_180.out; obtain ⟨hcz7_0, hcz7_1, hfz7_0, hfz7_1⟩ := cl2 BK180.out))
  refine bodyPost_ret (results_ctt rfl _ _ gb180 100 #[.int .u64 0, .int .u64 0] (0, 0) _ rfl (bQ3 BK180.out) Try.underlying100 rfl (by kernel_rfl)) rfl ?_
  exact ⟨eR3, bR3 HB.out⟩
 ·
  rw [if_neg c3] at H
  have c3b0 : decide (a1 < 0) = false := decide_eq_false c3
  clear c3
  obtain ⟨ji8, hji8⟩ : ∃ j_ : Int, (mn a1 128) = j_ := ⟨_, rfl⟩
  replace H : ((twin_shr.f a0_0 a0_1 (ji8)).bind fun bt181 => ((twin_shl.f bt181.1 bt181.2 (ji8)).bind fun bt184 => (some (bt181.1, bt181.2, (!(bt184.1 == a0_0) || (!(bt184.2 == a0_1))), none)))) = some (r1, r2, r3, r4) := by first | (rw [hji8] at H; exact H) | (simp only [hji8] at H ⊢; exact H)
  (try (have hji8h : ji8 ≤ 128 := by (rw [← hji8]; unfold mn; (repeat' split) <;> omega)))
  (try (have hji8g : ji8 ≤ 64 := by omega))
  have hji8_ : (if 128 < a1 then 128 else a1) = ji8 := hji8
  replace H := Option.bind_eq_some_iff.mp H
  obtain ⟨⟨t181, t182⟩, A90, H⟩ := H
  try dsimp -simprocs only at H
  have A9 := Aside0.mk A90
  clear A90
  replace H := Option.bind_eq_some_iff.mp H
  obtain ⟨⟨t184, t185⟩, A100, H⟩ := H
  try dsimp -simprocs only at H
  have A10 := Aside0.mk A100
  clear A100
  simp only [Option.some.injEq, Prod.mk.injEq] at H
  obtain ⟨rfl, rfl, rfl, rfl⟩ := H
  go_enter Try.func79, Try.ntmps79
  try go_wp2_with (first | ((with_reducible refine gD (N := 2) rfl ?_); refine bE3 2 #[.int .u64 a0_0, .int .u64 a0_1] 100 ?hr ?_; (case hr => first | (go_simp; done) | (go_simp; rfl)); intro gb179 hg w11 hbox hb; have BK179 := Aside0.mk (hbox); have GW179 := Aside0.mk ((bZ3 hg HB.out)); have GE179 := Aside0.mk ((bZ3 hg HB.out)); replace HB := Aside0.mk (bS3 HB.out hb); clear hb hbox hg) | ((with_reducible refine gD (N := 4) rfl ?_); refine bE3 4 #[.int .u64 0, .int .u64 0] 100 ?hr ?_; (case hr => first | (go_simp; done) | (go_simp; rfl)); intro gb180 hg w12 hbox hb; have BK180 := Aside0.mk (hbox); have GW180 := Aside0.mk ((bZ3 hg HB.out)); have GE180 := Aside0.mk ((bZ3 hg HB.out)); replace HB := Aside0.mk (bS3 HB.out hb); have NB179_180 := Aside0.mk ((bL3 hg BK179.out)); have NB180_179 := Aside0.mk ((bG3 hg BK179.out)); replace BK179 := Aside0.mk (bB3 BK179.out hb); clear hb hbox hg; have hnb13 := NB179_180.out; have hnc13 := NB180_179.out; obtain ⟨hcz14_0, hcz14_1, hfz14_0, hfz14_1⟩ := cl2 BK179.out) | ((with_reducible refine gC (f := 80) rfl ?_); (with_reducible refine gD (N := 16) rfl ?_); refine goesL_ (some 16) rfl rfl Try.func80 (by kernel_rfl) rfl #[.agg #[.int .u64 a0_0, .int .u64 a0_1], .int .i64 ji8] rfl (by (try simp only [List.map_toArray, List.map_cons, List.map_nil]); first | done | (simp only [hji8]; rfl) | rfl | (simp only [List.length_drop, List.length_take]; rfl)) ?_; (with_reducible refine (twin_shr.calls a0_0 a0_1 ji8 t181 t182 _ A9.out).mono ?_); rintro e w15 ⟨rfl, hb⟩; refine ⟨_, rfl, ?_⟩; replace BK179 := Aside0.mk (bB3 BK179.out hb); replace BK180 := Aside0.mk (bB3 BK180.out hb); replace HB := Aside0.mk (bS3 HB.out hb); (try clear hb); (try clear hk)) | ((with_reducible refine gD (N := 7) rfl ?_); refine bE3 7 #[.int .u64 0, .int .u64 0] 100 ?hr ?_; (case hr => first | (go_simp; done) | (go_simp; rfl)); intro gb183 hg w16 hbox hb; have BK183 := Aside0.mk (hbox); have GW183 := Aside0.mk ((bZ3 hg HB.out)); have GE183 := Aside0.mk ((bZ3 hg HB.out)); replace HB := Aside0.mk (bS3 HB.out hb); have NB179_183 := Aside0.mk ((bL3 hg BK179.out)); have NB183_179 := Aside0.mk ((bG3 hg BK179.out)); replace BK179 := Aside0.mk (bB3 BK179.out hb); have NB180_183 := Aside0.mk ((bL3 hg BK180.out)); have NB183_180 := Aside0.mk ((bG3 hg BK180.out)); replace BK180 := Aside0.mk (bB3 BK180.out hb); clear hb hbox hg; have hnb17 := NB183_179.out; have hnc17 := NB179_183.out; have hnb18 := NB183_180.out; have hnc18 := NB180_183.out; obtain ⟨hcz19_0, hcz19_1, hfz19_0, hfz19_1⟩ := cl2 BK183.out))
  have n0_ : Aside0 (((w16.setCell ⟨gb183, 0, none⟩ (.int .u64 t181)).setCell ⟨gb183, 1, none⟩ (.int .u64 t182)).heap[gb179]? = some (.cells #[.int .u64 a0_0, .int .u64 a0_1] 100 (0, 0))) := ⟨bQ3 BK179.out⟩
  have n1_ : Aside0 (((w16.setCell ⟨gb183, 0, none⟩ (.int .u64 t181)).setCell ⟨gb183, 1, none⟩ (.int .u64 t182)).heap[gb180]? = some (.cells #[.int .u64 0, .int .u64 0] 100 (0, 0))) := ⟨bQ3 BK180.out⟩
  have n2_ : Aside0 (((w16.setCell ⟨gb183, 0, none⟩ (.int .u64 t181)).setCell ⟨gb183, 1, none⟩ (.int .u64 t182)).heap[gb183]? = some (.cells #[.int .u64 t181, .int .u64 t182] 100 (0, 0))) := ⟨bQ3 BK183.out⟩
  have n3_ : Aside0 (Below w.heap.size w ((w16.setCell ⟨gb183, 0, none⟩ (.int .u64 t181)).setCell ⟨gb183, 1, none⟩ (.int .u64 t182))) := ⟨bR3 HB.out⟩
  (try clear BK179)
  (try clear BK180)
  (try clear BK183)
  (try clear HB)
  generalize ((w16.setCell ⟨gb183, 0, none⟩ (.int .u64 t181)).setCell ⟨gb183, 1, none⟩ (.int .u64 t182)) = w20 at n0_ n1_ n2_ n3_ ⊢
  have BK179 := n0_
  have BK180 := n1_
  have BK183 := n2_
  have HB := n3_
  clear n0_ n1_ n2_ n3_
  have n0_ := Aside0.mk (bD BK179.out)
  have n1_ := Aside0.mk (bD BK180.out)
  have n2_ := Aside0.mk (bD BK183.out)
  have n3_ := Aside0.mk (p1 HB.out)
  clear BK179
  clear BK180
  clear BK183
  clear HB
  have BK179 := n0_
  have BK180 := n1_
  have BK183 := n2_
  have HB := n3_
  clear n0_ n1_ n2_ n3_
  refine start_ (n := 9) (S := fun w' => w'.cell? ⟨gb183, 0, none⟩ = some (.int .u64 t181) ∧ w'.cell? ⟨gb183, 1, none⟩ = some (.int .u64 t182) ∧ w'.cell? ⟨gb179, 0, none⟩ = some (.int .u64 a0_0) ∧ w'.cell? ⟨gb179, 1, none⟩ = some (.int .u64 a0_1)) (ds := []) #[false, false, false, false, false, false, false, false, false] (by kernel_rfl) rfl rfl ⟨(blk_cell BK183.out 0).trans rfl, (blk_cell BK183.out 1).trans rfl, (blk_cell BK179.out 0).trans rfl, (blk_cell BK179.out 1).trans rfl⟩ (fun hHeld => ?_); refine with_tabW twin_Shr.tab5 twin_Shr.bits5 (fun HT_ HW_ => ?_)
  generalize w20.drew = w21 at BK179 BK180 BK183 HB hHeld ⊢
  refine pure_ (i := 2) (N := some 19) (v := ?_) (a' := ?_) #[false, false, true, false, false, false, false, false, false] rfl rfl (any_of HT_.out (by kernel_rfl)) (fun _ _ _ h => h) (Or.inl ⟨by rfl, ?_⟩) ?_ ?_
  rotate_left
  ·
   intro w'
   go_simp
   with_reducible rfl
  rotate_left
  ·
   simp only [Act.put, lS_, lZ_, lC_, i64_w, i32_w]
   rfl
  refine take_ (i := 0) (N := some 17) (v := ?_) (a' := ?_) #[true, false, true, false, false, false, false, false, false] rfl rfl (take_ofW HT_.out HW_.out (by kernel_rfl)) (fun _ _ _ h => h) (Or.inl ⟨by rfl, ?_⟩) hHeld ?_ ?_
  rotate_left
  ·
   rintro w' ⟨s0, s1, s2, s3⟩
   go_simp
   with_reducible rfl
  rotate_left
  ·
   simp only [Act.put, lS_, lZ_, lC_, i64_w, i32_w]
   rfl
  refine take_ (i := 1) (N := some 18) (v := ?_) (a' := ?_) #[true, true, true, false, false, false, false, false, false] rfl rfl (take_ofW HT_.out HW_.out (by kernel_rfl)) (fun _ _ _ h => h) (Or.inl ⟨by rfl, ?_⟩) hHeld ?_ ?_
  rotate_left
  ·
   rintro w' ⟨s0, s1, s2, s3⟩
   go_simp
   with_reducible rfl
  rotate_left
  ·
   simp only [Act.put, lS_, lZ_, lC_, i64_w, i32_w]
   rfl
  refine take_ (i := 4) (N := some 21) (v := ?_) (a' := ?_) #[true, true, true, false, true, false, false, false, false] rfl rfl (take_ofW HT_.out HW_.out (by kernel_rfl)) (fun _ _ _ h => h) (Or.inl ⟨by rfl, ?_⟩) hHeld ?_ ?_
  rotate_left
  ·
   rintro w' ⟨s0, s1, s2, s3⟩
   go_simp
   with_reducible rfl
  rotate_left
  ·
   simp only [Act.put, lS_, lZ_, lC_, i64_w, i32_w]
   rfl
  refine one_ (i := 3) (N := some 20) #[true, true, true, true, true, false, false, false, false] rfl rfl (one_of HT_.out (by kernel_rfl)) (by decide) (fun K hK => ?_)
  refine goes_ Try.func67 (by kernel_rfl) rfl #[.agg #[.int .u64 t181, .int .u64 t182], .int .i64 ji8] (by rfl) rfl rfl (by (try simp only [List.map_toArray, List.map_cons, List.map_nil]); first | done | (simp only [hji8]; rfl) | rfl | (simp only [List.length_drop, List.length_take]; rfl)) ?_
  with_reducible refine (twin_shl.calls t181 t182 ji8 t184 t185 _ A10.out).mono ?_
  rintro e w22 ⟨rfl, hb⟩
  refine ⟨_, rfl, ?_⟩
  have n0_ := Aside0.mk (bB3 BK179.out hb)
  have n1_ := Aside0.mk (bB3 BK180.out hb)
  have n2_ := Aside0.mk (bB3 BK183.out hb)
  have n3_ := Aside0.mk (bS3 HB.out hb)
  clear BK179
  clear BK180
  clear BK183
  clear HB
  have BK179 := n0_
  have BK180 := n1_
  have BK183 := n2_
  have HB := n3_
  clear n0_ n1_ n2_ n3_
  (try clear hb)
  (try clear hb2)
  (try clear hk)
  (try clear hi)
  refine hK.out _ _ ⟨(blk_cell BK183.out 0).trans rfl, (blk_cell BK183.out 1).trans rfl, (blk_cell BK179.out 0).trans rfl, (blk_cell BK179.out 1).trans rfl⟩ (fun hHeld => ?_)
  clear hK K
  refine norm_ (a' := ?_) ?_ ?_
  rotate_left
  ·
   show Act.put _ (some 20) _ = _
   simp only [Act.put, lS_, lZ_, lC_, i64_w, i32_w]
   rfl
  refine pure_ (i := 5) (N := some 22) (v := ?_) (a' := ?_) #[true, true, true, true, true, true, false, false, false] rfl rfl (any_of HT_.out (by kernel_rfl)) (fun _ _ _ h => h) (Or.inl ⟨by rfl, ?_⟩) ?_ ?_
  rotate_left
  ·
   intro w'
   go_simp
   with_reducible rfl
  rotate_left
  ·
   simp only [Act.put, lS_, lZ_, lC_, i64_w, i32_w]
   rfl
  refine one_ (i := 6) (N := none) #[true, true, true, true, true, true, true, false, false] rfl rfl (one_of HT_.out (by kernel_rfl)) (by decide) (fun K hK => ?_)
  have hs23 : w22.cell? ⟨gb180, 0, none⟩ = some (.int .u64 0) := (blk_cell BK180.out 0).trans rfl
  have hfs23 := blk_frozen BK180.out 0
  have hns23_0 := NB179_180.out
  have hns23_2 := NB183_180.out
  have hms23_0 := NB180_179.out
  have hms23_2 := NB180_183.out
  have hs24 : w22.cell? ⟨gb180, 1, none⟩ = some (.int .u64 0) := (blk_cell BK180.out 1).trans rfl
  have hfs24 := blk_frozen BK180.out 1
  have hns24_0 := NB179_180.out
  have hns24_2 := NB183_180.out
  have hms24_0 := NB180_179.out
  have hms24_2 := NB180_183.out
  refine skip_ (w1 := ?_) (by rfl) rfl ?_ ?_
  rotate_left
  ·
   go_simp
   rfl
  refine hK.out _ _ ⟨((cell_far (p := ⟨gb180, _, none⟩) NB183_180.out _).trans (((cell_far (p := ⟨gb180, _, none⟩) NB183_180.out _).trans (hHeld.1)))), ((cell_far (p := ⟨gb180, _, none⟩) NB183_180.out _).trans (((cell_far (p := ⟨gb180, _, none⟩) NB183_180.out _).trans (hHeld.2.1)))), ((cell_far (p := ⟨gb180, _, none⟩) NB179_180.out _).trans (((cell_far (p := ⟨gb180, _, none⟩) NB179_180.out _).trans (hHeld.2.2.1)))), ((cell_far (p := ⟨gb180, _, none⟩) NB179_180.out _).trans (((cell_far (p := ⟨gb180, _, none⟩) NB179_180.out _).trans (hHeld.2.2.2))))⟩ (fun hHeld => ?_)
  clear hK K
  refine pure_ (i := 7) (N := some 5) (v := ?_) (a' := ?_) #[true, true, true, true, true, true, true, true, false] rfl rfl (any_of HT_.out (by kernel_rfl)) (fun _ _ _ h => h) (Or.inl ⟨by rfl, ?_⟩) ?_ ?_
  rotate_left
  ·
   intro w'
   go_simp
   with_reducible rfl
  rotate_left
  ·
   simp only [Act.put, lS_, lZ_, lC_, i64_w, i32_w]
   rfl
  refine pure_ (i := 8) (N := some 6) (v := ?_) (a' := ?_) #[true, true, true, true, true, true, true, true, true] rfl rfl (any_of HT_.out (by kernel_rfl)) (fun _ _ _ h => h) (Or.inl ⟨by rfl, ?_⟩) ?_ ?_
  rotate_left
  ·
   intro w'
   go_simp
   with_reducible rfl
  rotate_left
  ·
   simp only [Act.put, lS_, lZ_, lC_, i64_w, i32_w]
   rfl
  refine done_ (done_of HT_.out (by kernel_rfl)) ?_
  try go_wp2
  refine bodyPost_ret (results_ctt rfl _ _ gb180 100 #[.int .u64 t181, .int .u64 t182] (0, 0) _ rfl (bQ3 BK180.out) Try.underlying100 rfl (by kernel_rfl)) rfl ?_
  exact ⟨by first | rfl | (simp [errW_none, errW_some] <;> rfl) | (simp only [← hji8]; first | rfl | (simp [errW_none, errW_some] <;> rfl)) | (simp [*, errW_none, errW_some] <;> rfl), bR3 HB.out⟩
end Go.Proofs.Ytjlaijaadclghaa.F
