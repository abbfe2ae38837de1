/- Printed functions and their walks; no further conditions. -/
import Derived.Test.YtjlaijaadclghaaF0Q
import Derived.Test.YtjlaijaadclghaaF1Q
import Derived.Test.YtjlaijaadclghaaF2Q
import Derived.Test.YtjlaijaadclghaaF8Q
namespace Go.Proofs.Ytjlaijaadclghaa.F
open RowKit YtjlaijaadclghaaW PrintWords PrintLast PrintMore
attribute [local go_sem high] xor_u64 xor_u32
attribute [local go_sem] max2_int min2_int max_two min_two max_three min_three max_four min_four
set_option linter.all false
attribute [local go_sem high] eqA76 eqA100
def round_held.f (a0 : Int) : Option (Int) := some (mx (-1099511627776) (mn a0 1099511627776))
set_option maxHeartbeats 8000000 in
set_option maxRecDepth 100000 in
theorem round_held.calls (a0 : Int) (r : Int) (w : World) (h : round_held.f a0 = some r) :
  Calls Try.prog 52 #[.int .i64 a0] w fun e w' => e = .returned (.int .i64 r) ∧ Below w.heap.size w w' := by
 have HB := Aside0.mk (Below.refl w.heap.size w)
 have H : (some (mx (-1099511627776) (mn a0 1099511627776))) = some r := h
 clear h
 obtain ⟨ji2, hji2⟩ : ∃ j_ : Int, (mn a0 1099511627776) = j_ := ⟨_, rfl⟩
 replace H : (some (mx (-1099511627776) (ji2))) = some r := by first | (rw [hji2] at H; exact H) | (simp only [hji2] at H ⊢; exact H)
 (try (have hji2h : ji2 ≤ 1099511627776 := by (rw [← hji2]; unfold mn; (repeat' split) <;> omega)))
 (try (have hji2g : ji2 ≤ 64 := by omega))
 have hji2_ : (if 1099511627776 < a0 then 1099511627776 else a0) = ji2 := hji2
 obtain ⟨ji3, hji3⟩ : ∃ j_ : Int, (mx (-1099511627776) (ji2)) = j_ := ⟨_, rfl⟩
 replace H : (some ji3) = some r := by first | (rw [hji3] at H; exact H) | (simp only [hji3] at H ⊢; exact H)
 have hji3_ : (if (-1099511627776) < (ji2) then (ji2) else (-1099511627776)) = ji3 := hji3
 obtain rfl := Option.some.inj H
 go_enter Try.func52, Try.ntmps52
 go_wp2
 go_ret
 exact ⟨by first | rfl | (simp [errW_none, errW_some] <;> rfl) | (simp only [← hji2, ← hji3]; first | rfl | (simp [errW_none, errW_some] <;> rfl)) | (simp [*, errW_none, errW_some] <;> rfl), bR3 HB.out⟩
def round_Make.j0 : Nat → Bool → Int → Int → Int → Bool → Bool → Option (Int × Bool × Int × Int × Int × Bool × Option Int)
 | 0, _, _, _, _, _, _ => none
 | k + 1, x0, x1, x2, x3, x4, x19 => if x19 = true then (some (0, false, 0, 0, 0, false, some 1)) else ((twin_Norm.f k x1 x2).bind fun bt163 => (if (bt163.1 == 0 && (bt163.2.1 == 0)) = true then (some (0, false, 0, 0, 0, false, none)) else ((round_held.f (wrap64 (((mx (-4398046511104) (mn x3 4398046511104)) + 127) - bt163.2.2))).bind fun t167 => (some (1, x0, t167, bt163.1, bt163.2.1, x4, none)))))
def round_Make.f (k : Nat) (a0 : Bool) (a1 : Int) (a2 : Int) (a3 : Int) (a4 : Bool) : Option (Int × Bool × Int × Int × Int × Bool × Option Int) := if a4 = true then (round_Make.j0 k a0 a1 a2 a3 a4 ((a1 / 9223372036854775808) == 0)) else (round_Make.j0 k a0 a1 a2 a3 a4 false)
def round_Make.T7 : Bool × List (List Nat × List Nat) := (true, [([], []), ([], []), ([1], [1]), ([], []), ([2, 3], [2, 3]), ([4], [4]), ([], []), ([6], [6]), ([], []), ([8], [8]), ([], []), ([0, 5, 7, 9, 10], [0, 5, 7, 9, 10]), ([11, 5, 0, 1, 2, 3, 4, 5, 6, 7, 8, 9, 10, 11], [11]), ([12, 0, 1, 2, 3, 4, 5, 6, 7, 8, 9, 10, 11, 12], [])])
def round_Make.B7 : List Nat := [0, 0, 2, 0, 14, 30, 0, 64, 0, 256, 0, 2047, 4095, 8191]
theorem round_Make.tab7 : rtab .any (opsOf Try.f34 7) = round_Make.T7 := by kernel_rfl
theorem round_Make.bits7 : waitsOk round_Make.T7.2 round_Make.B7 = true := by kernel_rfl
set_option maxHeartbeats 8000000 in
set_option maxRecDepth 100000 in
theorem round_Make.calls (k : Nat) (a0 : Bool) (a1 : Int) (a2 : Int) (a3 : Int) (a4 : Bool) (r1 : Int) (r2 : Bool) (r3 : Int) (r4 : Int) (r5 : Int) (r6 : Bool) (r7 : Option Int) (w : World) (h : round_Make.f k a0 a1 a2 a3 a4 = some (r1, r2, r3, r4, r5, r6, r7)) :
  Calls Try.prog 34 #[.bool a0, .int .u64 a1, .int .u64 a2, .int .i64 a3, .bool a4] w fun e w' => e = .returned (.tuple #[.agg #[.int .i64 r1, .bool r2, .int .i64 r3, .int .u64 r4, .int .u64 r5, .bool r6], errW r7]) ∧ Below w.heap.size w w' := by
 have hu76 := Try.underlying76
 have hu100 := Try.underlying100
 have hu25 := Try.underlying25
 have hu29 := Try.underlying29
 have HB := Aside0.mk (Below.refl w.heap.size w)
 have H : (if a4 = true then (round_Make.j0 k a0 a1 a2 a3 a4 ((a1 / 9223372036854775808) == 0)) else (round_Make.j0 k a0 a1 a2 a3 a4 false)) = some (r1, r2, r3, r4, r5, r6, r7) := h
 clear h
 have HC6 := Aside0.mk H
 clear H
 go_enter Try.func34, Try.ntmps34
 go_upto_region 1 with (first | ((with_reducible refine gD (N := 10) rfl ?_); refine bE3 10 #[.int .i64 0, .bool false, .int .i64 0, .int .u64 0, .int .u64 0, .bool false] 76 ?hr ?_; (case hr => first | (go_simp; done) | (go_simp; rfl)); intro gb162 hg w7 hbox hb; have BK162 := Aside0.mk (hbox); have GW162 := Aside0.mk ((bZ3 hg HB.out)); have GE162 := Aside0.mk ((bZ3 hg HB.out)); replace HB := Aside0.mk (bS3 HB.out hb); clear hb hbox hg))
 (try simp only [Act.put, lS_, lZ_, lC_])
 go_cut [19] (fun v19 wc => ∃ (kq : Nat) (x19_5 : Bool), v19 = .bool x19_5 ∧ Aside0 (round_Make.j0 kq a0 a1 a2 a3 a4 x19_5 = some (r1, r2, r3, r4, r5, r6, r7)) ∧ Aside0 (kq ≤ k) ∧ Aside0 (wc.heap[gb162]? = some (.cells #[.int .i64 0, .bool false, .int .i64 0, .int .u64 0, .int .u64 0, .bool false] 76 (0, 0))) ∧ Aside0 (Below w.heap.size w wc))
 case first =>
  have H := HC6.out
  clear HC6
  by_cases c8 : a4 = true
  ·
   subst c8
   rw [if_pos rfl] at H
   have H' := Aside0.mk H
   clear H
   go_wp2
   go_meet
   case rel => exact ⟨_, (((a1 / 9223372036854775808) == 0)), (by first | rfl | (simp; done) | (simp [*]; done)), H', ⟨by first | omega | exact Nat.le_refl _⟩, ⟨bK3 BK162.out⟩, ⟨bR3 HB.out⟩⟩
  ·
   replace c8 := Bool.eq_false_iff.mpr c8
   subst c8
   rw [if_neg (show ¬ (false = true) by decide)] at H
   have H' := Aside0.mk H
   clear H
   go_wp2
   go_meet
   case rel => exact ⟨_, (false), (by first | rfl | (simp; done) | (simp [*]; done)), H', ⟨by first | omega | exact Nat.le_refl _⟩, ⟨bK3 BK162.out⟩, ⟨bR3 HB.out⟩⟩
 case rest =>
  clear HC6
  try clear p2
  try clear c3
  try clear c8
  obtain ⟨kq, x19_5, rfl, HA, HJ5, BK162, HB⟩ := hcut
  cases kq with
  | zero => exact absurd HA.out (by simp [round_Make.j0])
  | succ kj5 =>
   have H := HA.out
   clear HA
   simp only [round_Make.j0] at H
   by_cases c9 : x19_5 = true
   ·
    subst c9
    rw [if_pos rfl] at H
    simp only [Option.some.injEq, Prod.mk.injEq] at H
    obtain ⟨rfl, rfl, rfl, rfl, rfl, rfl, rfl⟩ := H
    obtain ⟨hcz10_0, hcz10_1, hcz10_2, hcz10_3, hcz10_4, hcz10_5, hfz10_0, hfz10_1, hfz10_2, hfz10_3, hfz10_4, hfz10_5⟩ := cl6 BK162.out
    go_wp2
    refine bodyPost_ret (results_ct rfl _ _ gb162 76 #[.int .i64 0, .bool false, .int .i64 0, .int .u64 0, .int .u64 0, .bool false] (0, 0) _ rfl (bQ3 BK162.out) Try.underlying76 rfl (by kernel_rfl)) rfl ?_
    exact ⟨eR3, bR3 HB.out⟩
   ·
    replace c9 := Bool.eq_false_iff.mpr c9
    subst c9
    rw [if_neg (show ¬ (false = true) by decide)] at H
    replace H := Option.bind_eq_some_iff.mp H
    obtain ⟨⟨t163, t164, t165⟩, A110, H⟩ := H
    try dsimp -simprocs only at H
    have A11 := Aside0.mk A110
    clear A110
    by_cases c12 : (t163 == 0 && (t164 == 0)) = true
    ·
     rw [if_pos c12] at H
     have c12b0 : (t163 == 0 && (t164 == 0)) = true := c12
     (try (have c12b1 : decide (t163 = 0 && (t164 == 0)) = true := by simpa using c12))
     (try (have c12b2 : (t163 == 0 && (t164 == 0)) = true := by simpa using c12))
     clear c12
     simp only [Option.some.injEq, Prod.mk.injEq] at H
     obtain ⟨rfl, rfl, rfl, rfl, rfl, rfl, rfl⟩ := H
     go_wp2_with (first | ((with_reducible refine gX_ 51 26 rfl rfl ?_); refine goesY_ (some 26) Try.func51 #[.agg #[.int .u64 a1, .int .u64 a2]] ?_; (with_reducible refine (twin_Norm.calls kj5 a1 a2 t163 t164 t165 _ A11.out).mono ?_); rintro e w13 ⟨rfl, hb⟩; refine ⟨_, rfl, ?_⟩; replace BK162 := Aside0.mk (bB3 BK162.out hb); replace HB := Aside0.mk (bS3 HB.out hb); (try clear hb); (try clear hk)) | ((with_reducible refine gD (N := 12) rfl ?_); refine bE3 12 #[.int .u64 0, .int .u64 0] 100 ?hr ?_; (case hr => first | (go_simp; done) | (go_simp; rfl)); intro gb166 hg w14 hbox hb; have BK166 := Aside0.mk (hbox); have GW166 := Aside0.mk ((bZ3 hg HB.out)); have GE166 := Aside0.mk ((bZ3 hg HB.out)); replace HB := Aside0.mk (bS3 HB.out hb); have NB162_166 := Aside0.mk ((bL3 hg BK162.out)); have NB166_162 := Aside0.mk ((bG3 hg BK162.out)); replace BK162 := Aside0.mk (bB3 BK162.out hb); clear hb hbox hg; have hnb15 := NB166_162.out; have hnc15 := NB162_166.out; obtain ⟨hcz16_0, hcz16_1, hfz16_0, hfz16_1⟩ := cl2 BK166.out; obtain ⟨hcz17_0, hcz17_1, hcz17_2, hcz17_3, hcz17_4, hcz17_5, hfz17_0, hfz17_1, hfz17_2, hfz17_3, hfz17_4, hfz17_5⟩ := cl6 BK162.out))
     refine bodyPost_ret (results_ct rfl _ _ gb162 76 #[.int .i64 0, .bool false, .int .i64 0, .int .u64 0, .int .u64 0, .bool false] (0, 0) _ rfl (bQ3 BK162.out) Try.underlying76 rfl (by kernel_rfl)) rfl ?_
     exact ⟨eR3, bR3 HB.out⟩
    ·
     rw [if_neg c12] at H
     have c12b0 : (t163 == 0 && (t164 == 0)) = false := by simpa using c12
     (try (have c12b1 : decide (t163 = 0 && (t164 == 0)) = false := by simpa using c12))
     (try (have c12b2 : (t163 == 0 && (t164 == 0)) = false := by simpa using c12))
     (try (have c12b3 : ¬ (t163 = 0 && (t164 == 0)) := by simpa using c12))
     clear c12
     obtain ⟨ji18, hji18⟩ : ∃ j_ : Int, (mn a3 4398046511104) = j_ := ⟨_, rfl⟩
     replace H : ((round_held.f (wrap64 (((mx (-4398046511104) (ji18)) + 127) - t165))).bind fun t167 => (some (1, a0, t167, t163, t164, a4, none))) = some (r1, r2, r3, r4, r5, r6, r7) := by first | (rw [hji18] at H; exact H) | (simp only [hji18] at H ⊢; exact H)
     (try rw [hji18] at A11)
     have hji18_ : (if 4398046511104 < a3 then 4398046511104 else a3) = ji18 := hji18
     obtain ⟨ji19, hji19⟩ : ∃ j_ : Int, (mx (-4398046511104) (ji18)) = j_ := ⟨_, rfl⟩
     replace H : ((round_held.f (wrap64 (((ji19) + 127) - t165))).bind fun t167 => (some (1, a0, t167, t163, t164, a4, none))) = some (r1, r2, r3, r4, r5, r6, r7) := by first | (rw [hji19] at H; exact H) | (simp only [hji19] at H ⊢; exact H)
     (try rw [hji19] at A11)
     have hji19_ : (if (-4398046511104) < (ji18) then (ji18) else (-4398046511104)) = ji19 := hji19
     replace H := Option.bind_eq_some_iff.mp H
     obtain ⟨t167, A200, H⟩ := H
     try dsimp -simprocs only at H
     have A20 := Aside0.mk A200
     clear A200
     simp only [Option.some.injEq, Prod.mk.injEq] at H
     obtain ⟨rfl, rfl, rfl, rfl, rfl, rfl, rfl⟩ := H
     try go_wp2_with (first | ((with_reducible refine gX_ 51 26 rfl rfl ?_); refine goesY_ (some 26) Try.func51 #[.agg #[.int .u64 a1, .int .u64 a2]] ?_; (with_reducible refine (twin_Norm.calls kj5 a1 a2 t163 t164 t165 _ A11.out).mono ?_); rintro e w21 ⟨rfl, hb⟩; refine ⟨_, rfl, ?_⟩; replace BK162 := Aside0.mk (bB3 BK162.out hb); replace HB := Aside0.mk (bS3 HB.out hb); (try clear hb); (try clear hk)) | ((with_reducible refine gD (N := 12) rfl ?_); refine bE3 12 #[.int .u64 0, .int .u64 0] 100 ?hr ?_; (case hr => first | (go_simp; done) | (go_simp; rfl)); intro gb166 hg w22 hbox hb; have BK166 := Aside0.mk (hbox); have GW166 := Aside0.mk ((bZ3 hg HB.out)); have GE166 := Aside0.mk ((bZ3 hg HB.out)); replace HB := Aside0.mk (bS3 HB.out hb); have NB162_166 := Aside0.mk ((bL3 hg BK162.out)); have NB166_162 := Aside0.mk ((bG3 hg BK162.out)); replace BK162 := Aside0.mk (bB3 BK162.out hb); clear hb hbox hg; have hnb23 := NB166_162.out; have hnc23 := NB162_166.out; obtain ⟨hcz24_0, hcz24_1, hfz24_0, hfz24_1⟩ := cl2 BK166.out))
     have n0_ : Aside0 (((w22.setCell ⟨gb166, 0, none⟩ (.int .u64 t163)).setCell ⟨gb166, 1, none⟩ (.int .u64 t164)).heap[gb162]? = some (.cells #[.int .i64 0, .bool false, .int .i64 0, .int .u64 0, .int .u64 0, .bool false] 76 (0, 0))) := ⟨bQ3 BK162.out⟩
     have n1_ : Aside0 (((w22.setCell ⟨gb166, 0, none⟩ (.int .u64 t163)).setCell ⟨gb166, 1, none⟩ (.int .u64 t164)).heap[gb166]? = some (.cells #[.int .u64 t163, .int .u64 t164] 100 (0, 0))) := ⟨bQ3 BK166.out⟩
     have n2_ : Aside0 (Below w.heap.size w ((w22.setCell ⟨gb166, 0, none⟩ (.int .u64 t163)).setCell ⟨gb166, 1, none⟩ (.int .u64 t164))) := ⟨bR3 HB.out⟩
     (try clear BK162)
     (try clear BK166)
     (try clear HB)
     generalize ((w22.setCell ⟨gb166, 0, none⟩ (.int .u64 t163)).setCell ⟨gb166, 1, none⟩ (.int .u64 t164)) = w25 at n0_ n1_ n2_ ⊢
     have BK162 := n0_
     have BK166 := n1_
     have HB := n2_
     clear n0_ n1_ n2_
     have n0_ := Aside0.mk (bD BK162.out)
     have n1_ := Aside0.mk (bD BK166.out)
     have n2_ := Aside0.mk (p1 HB.out)
     clear BK162
     clear BK166
     clear HB
     have BK162 := n0_
     have BK166 := n1_
     have HB := n2_
     clear n0_ n1_ n2_
     refine start_ (n := 14) (S := fun w' => w'.cell? ⟨gb166, 0, none⟩ = some (.int .u64 t163) ∧ w'.cell? ⟨gb166, 1, none⟩ = some (.int .u64 t164)) (ds := []) #[false, false, false, false, false, false, false, false, false, false, false, false, false, false] (by kernel_rfl) rfl rfl ⟨(blk_cell BK166.out 0).trans rfl, (blk_cell BK166.out 1).trans rfl⟩ (fun hHeld => ?_); refine with_tabW round_Make.tab7 round_Make.bits7 (fun HT_ HW_ => ?_)
     generalize w25.drew = w26 at BK162 BK166 HB hHeld ⊢
     refine pure_ (i := 0) (N := some 36) (v := ?_) (a' := ?_) #[true, false, false, false, false, false, false, false, false, false, false, false, false, false] rfl rfl (any_of HT_.out (by kernel_rfl)) (fun _ _ _ h => h) (Or.inl ⟨by rfl, ?_⟩) ?_ ?_
     rotate_left
     ·
      intro w'
      go_simp
      with_reducible rfl
     rotate_left
     ·
      simp only [Act.put, lS_, lZ_, lC_, i64_w, i32_w]
      rfl
     refine pure_ (i := 1) (N := some 37) (v := ?_) (a' := ?_) #[true, true, false, false, false, false, false, false, false, false, false, false, false, false] rfl rfl (any_of HT_.out (by kernel_rfl)) (fun _ _ _ h => h) (Or.inl ⟨by rfl, ?_⟩) ?_ ?_
     rotate_left
     ·
      intro w'
      go_simp
      with_reducible rfl
     rotate_left
     ·
      simp only [Act.put, lS_, lZ_, lC_, i64_w, i32_w]
      rfl
     refine pure_ (i := 2) (N := some 38) (v := ?_) (a' := ?_) #[true, true, true, false, false, false, false, false, false, false, false, false, false, false] rfl rfl (any_of HT_.out (by kernel_rfl)) (fun _ _ _ h => h) (Or.inl ⟨by rfl, ?_⟩) ?_ ?_
     rotate_left
     ·
      intro w'
      go_simp
      with_reducible rfl
     rotate_left
     ·
      simp only [Act.put, lS_, lZ_, lC_, i64_w, i32_w]
      rfl
     refine pure_ (i := 3) (N := some 39) (v := ?_) (a' := ?_) #[true, true, true, true, false, false, false, false, false, false, false, false, false, false] rfl rfl (any_of HT_.out (by kernel_rfl)) (fun _ _ _ h => h) (Or.inl ⟨by rfl, ?_⟩) ?_ ?_
     rotate_left
     ·
      intro w'
      go_simp
      with_reducible rfl
     rotate_left
     ·
      simp only [Act.put, lS_, lZ_, lC_, i64_w, i32_w]
      rfl
     refine pure_ (i := 4) (N := some 40) (v := ?_) (a' := ?_) #[true, true, true, true, true, false, false, false, false, false, false, false, false, false] rfl rfl (any_of HT_.out (by kernel_rfl)) (fun _ _ _ h => h) (Or.inl ⟨by rfl, ?_⟩) ?_ ?_
     rotate_left
     ·
      intro w'
      go_simp
      with_reducible rfl
     rotate_left
     ·
      simp only [Act.put, lS_, lZ_, lC_, i64_w, i32_w]
      rfl
     refine pure_ (i := 6) (N := some 42) (v := ?_) (a' := ?_) #[true, true, true, true, true, false, true, false, false, false, false, false, false, false] rfl rfl (any_of HT_.out (by kernel_rfl)) (fun _ _ _ h => h) (Or.inl ⟨by rfl, ?_⟩) ?_ ?_
     rotate_left
     ·
      intro w'
      go_simp
      with_reducible rfl
     rotate_left
     ·
      simp only [Act.put, lS_, lZ_, lC_, i64_w, i32_w]
      rfl
     refine pure_ (i := 8) (N := some 44) (v := ?_) (a' := ?_) #[true, true, true, true, true, false, true, false, true, false, false, false, false, false] rfl rfl (any_of HT_.out (by kernel_rfl)) (fun _ _ _ h => h) (Or.inl ⟨by rfl, ?_⟩) ?_ ?_
     rotate_left
     ·
      intro w'
      go_simp
      with_reducible rfl
     rotate_left
     ·
      simp only [Act.put, lS_, lZ_, lC_, i64_w, i32_w]
      rfl
     refine pure_ (i := 10) (N := some 46) (v := ?_) (a' := ?_) #[true, true, true, true, true, false, true, false, true, false, true, false, false, false] rfl rfl (any_of HT_.out (by kernel_rfl)) (fun _ _ _ h => h) (Or.inl ⟨by rfl, ?_⟩) ?_ ?_
     rotate_left
     ·
      intro w'
      go_simp
      with_reducible rfl
     rotate_left
     ·
      simp only [Act.put, lS_, lZ_, lC_, i64_w, i32_w]
      rfl
     refine take_ (i := 7) (N := some 43) (v := ?_) (a' := ?_) #[true, true, true, true, true, false, true, true, true, false, true, false, false, false] rfl rfl (take_ofW HT_.out HW_.out (by kernel_rfl)) (fun _ _ _ h => h) (Or.inl ⟨by rfl, ?_⟩) hHeld ?_ ?_
     rotate_left
     ·
      rintro w' ⟨s0, s1⟩
      go_simp
      with_reducible rfl
     rotate_left
     ·
      simp only [Act.put, lS_, lZ_, lC_, i64_w, i32_w]
      rfl
     refine take_ (i := 9) (N := some 45) (v := ?_) (a' := ?_) #[true, true, true, true, true, false, true, true, true, true, true, false, false, false] rfl rfl (take_ofW HT_.out HW_.out (by kernel_rfl)) (fun _ _ _ h => h) (Or.inl ⟨by rfl, ?_⟩) hHeld ?_ ?_
     rotate_left
     ·
      rintro w' ⟨s0, s1⟩
      go_simp
      with_reducible rfl
     rotate_left
     ·
      simp only [Act.put, lS_, lZ_, lC_, i64_w, i32_w]
      rfl
     refine one_ (i := 5) (N := some 41) #[true, true, true, true, true, true, true, true, true, true, true, false, false, false] rfl rfl (one_of HT_.out (by kernel_rfl)) (by decide) (fun K hK => ?_)
     refine goes_ Try.func52 (by kernel_rfl) rfl #[.int .i64 (wrap64 (((ji19) + 127) - t165))] (by rfl) rfl rfl (by (try simp only [List.map_toArray, List.map_cons, List.map_nil]); first | done | (exact congrArg (fun z_ => (#[Value.int IntKind.i64 z_] : Array Value)) (show wrap64 (wrap64 (ji19 + 127) - t165) = wrap64 ((ji19 + 127) - t165) from by unfold wrap64; omega)) | (simp only [hji19]; rfl) | rfl | (simp only [List.length_drop, List.length_take]; rfl)) ?_
     with_reducible refine (round_held.calls (wrap64 (((ji19) + 127) - t165)) t167 _ A20.out).mono ?_
     rintro e w27 ⟨rfl, hb⟩
     refine ⟨_, rfl, ?_⟩
     have n0_ := Aside0.mk (bB3 BK162.out hb)
     have n1_ := Aside0.mk (bB3 BK166.out hb)
     have n2_ := Aside0.mk (bS3 HB.out hb)
     clear BK162
     clear BK166
     clear HB
     have BK162 := n0_
     have BK166 := n1_
     have HB := n2_
     clear n0_ n1_ n2_
     (try clear hb)
     (try clear hb2)
     (try clear hk)
     (try clear hi)
     refine hK.out _ _ ⟨(blk_cell BK166.out 0).trans rfl, (blk_cell BK166.out 1).trans rfl⟩ (fun hHeld => ?_)
     clear hK K
     refine norm_ (a' := ?_) ?_ ?_
     rotate_left
     ·
      show Act.put _ (some 41) _ = _
      simp only [Act.put, lS_, lZ_, lC_, i64_w, i32_w]
      rfl
     refine pure_ (i := 11) (N := some 47) (v := ?_) (a' := ?_) #[true, true, true, true, true, true, true, true, true, true, true, true, false, false] rfl rfl (any_of HT_.out (by kernel_rfl)) (fun _ _ _ h => h) (Or.inl ⟨by rfl, ?_⟩) ?_ ?_
     rotate_left
     ·
      intro w'
      go_simp
      with_reducible rfl
     rotate_left
     ·
      simp only [Act.put, lS_, lZ_, lC_, i64_w, i32_w]
      rfl
     refine one_ (i := 12) (N := none) #[true, true, true, true, true, true, true, true, true, true, true, true, true, false] rfl rfl (one_of HT_.out (by kernel_rfl)) (by decide) (fun K hK => ?_)
     have hs28 : w27.cell? ⟨gb162, 0, none⟩ = some (.int .i64 0) := (blk_cell BK162.out 0).trans rfl
     have hfs28 := blk_frozen BK162.out 0
     have hns28_1 := NB166_162.out
     have hms28_1 := NB162_166.out
     have hs29 : w27.cell? ⟨gb162, 1, none⟩ = some (.bool false) := (blk_cell BK162.out 1).trans rfl
     have hfs29 := blk_frozen BK162.out 1
     have hns29_1 := NB166_162.out
     have hms29_1 := NB162_166.out
     have hs30 : w27.cell? ⟨gb162, 2, none⟩ = some (.int .i64 0) := (blk_cell BK162.out 2).trans rfl
     have hfs30 := blk_frozen BK162.out 2
     have hns30_1 := NB166_162.out
     have hms30_1 := NB162_166.out
     have hs31 : w27.cell? ⟨gb162, 3, none⟩ = some (.int .u64 0) := (blk_cell BK162.out 3).trans rfl
     have hfs31 := blk_frozen BK162.out 3
     have hns31_1 := NB166_162.out
     have hms31_1 := NB162_166.out
     have hs32 : w27.cell? ⟨gb162, 4, none⟩ = some (.int .u64 0) := (blk_cell BK162.out 4).trans rfl
     have hfs32 := blk_frozen BK162.out 4
     have hns32_1 := NB166_162.out
     have hms32_1 := NB162_166.out
     have hs33 : w27.cell? ⟨gb162, 5, none⟩ = some (.bool false) := (blk_cell BK162.out 5).trans rfl
     have hfs33 := blk_frozen BK162.out 5
     have hns33_1 := NB166_162.out
     have hms33_1 := NB162_166.out
     refine skip_ (w1 := ?_) (by rfl) rfl ?_ ?_
     rotate_left
     ·
      go_simp
      rfl
     refine hK.out _ _ ⟨((cell_far (p := ⟨gb162, _, none⟩) NB166_162.out _).trans (((cell_far (p := ⟨gb162, _, none⟩) NB166_162.out _).trans (((cell_far (p := ⟨gb162, _, none⟩) NB166_162.out _).trans (((cell_far (p := ⟨gb162, _, none⟩) NB166_162.out _).trans (((cell_far (p := ⟨gb162, _, none⟩) NB166_162.out _).trans (((cell_far (p := ⟨gb162, _, none⟩) NB166_162.out _).trans (hHeld.1)))))))))))), ((cell_far (p := ⟨gb162, _, none⟩) NB166_162.out _).trans (((cell_far (p := ⟨gb162, _, none⟩) NB166_162.out _).trans (((cell_far (p := ⟨gb162, _, none⟩) NB166_162.out _).trans (((cell_far (p := ⟨gb162, _, none⟩) NB166_162.out _).trans (((cell_far (p := ⟨gb162, _, none⟩) NB166_162.out _).trans (((cell_far (p := ⟨gb162, _, none⟩) NB166_162.out _).trans (hHeld.2))))))))))))⟩ (fun hHeld => ?_)
     clear hK K
     refine pure_ (i := 13) (N := some 11) (v := ?_) (a' := ?_) #[true, true, true, true, true, true, true, true, true, true, true, true, true, true] rfl rfl (any_of HT_.out (by kernel_rfl)) (fun _ _ _ h => h) (Or.inl ⟨by rfl, ?_⟩) ?_ ?_
     rotate_left
     ·
      intro w'
      go_simp
      with_reducible rfl
     rotate_left
     ·
      simp only [Act.put, lS_, lZ_, lC_, i64_w, i32_w]
      rfl
     refine done_ (done_of HT_.out (by kernel_rfl)) ?_
     try go_wp2
     refine bodyPost_ret (results_ct rfl _ _ gb162 76 #[.int .i64 1, .bool a0, .int .i64 t167, .int .u64 t163, .int .u64 t164, .bool a4] (0, 0) _ rfl (bQ3 BK162.out) Try.underlying76 rfl (by kernel_rfl)) rfl ?_
     exact ⟨by first | rfl | (simp [errW_none, errW_some] <;> rfl) | (simp only [← hji18, ← hji19]; first | rfl | (simp [errW_none, errW_some] <;> rfl)) | (simp [*, errW_none, errW_some] <;> rfl), bR3 HB.out⟩
def round_sound.j0 : Nat → Int → Bool → Int → Bool → Int → Int → Int → Bool → Option (Bool)
 | 0, _, _, _, _, _, _, _, _ => none
 | k + 1, x4, x5, x171000, x171001, x171002, x171003, x171004, x171005 => if x5 = true then (some (!x171001 && (x171002 == 0 && (x171003 == 0 && (x171004 == 0 && (!x171005)))))) else (if x4 = 1 then (if (x171003 / 9223372036854775808) = 1 then ((round_held.f x171002).bind fun t171 => (some (x171002 == t171))) else (some false)) else (some false))
def round_sound.f (k : Nat) (a0_0 : Int) (a0_1 : Bool) (a0_2 : Int) (a0_3 : Int) (a0_4 : Int) (a0_5 : Bool) : Option (Bool) := if a0_0 = 0 then (round_sound.j0 k a0_0 (a0_0 == 0) a0_0 a0_1 a0_2 a0_3 a0_4 a0_5) else (round_sound.j0 k a0_0 (a0_0 == 2) a0_0 a0_1 a0_2 a0_3 a0_4 a0_5)
def round_sound.T6 : Bool × List (List Nat × List Nat) := (true, [([], []), ([0], [0]), ([1], [1]), ([2], [2]), ([3], [3]), ([4], [4]), ([5, 4], [4, 5]), ([4], [4]), ([7, 4], [4, 7]), ([8, 4, 4], [4, 8]), ([6, 9, 4], [4, 6, 9]), ([4, 10], [4, 10]), ([11, 9, 0, 1, 2, 3, 4, 5, 6, 7, 8, 9, 10, 11], [11])])
def round_sound.B6 : List Nat := [0, 1, 3, 7, 15, 31, 63, 31, 159, 415, 1023, 2047, 4095]
theorem round_sound.tab6 : rtab .any (opsOf Try.f69 6) = round_sound.T6 := by kernel_rfl
theorem round_sound.bits6 : waitsOk round_sound.T6.2 round_sound.B6 = true := by kernel_rfl
set_option maxHeartbeats 8000000 in
set_option maxRecDepth 100000 in
theorem round_sound.calls (k : Nat) (a0_0 : Int) (a0_1 : Bool) (a0_2 : Int) (a0_3 : Int) (a0_4 : Int) (a0_5 : Bool) (r : Bool) (w : World) (h : round_sound.f k a0_0 a0_1 a0_2 a0_3 a0_4 a0_5 = some r) :
  Calls Try.prog 69 #[.agg #[.int .i64 a0_0, .bool a0_1, .int .i64 a0_2, .int .u64 a0_3, .int .u64 a0_4, .bool a0_5]] w fun e w' => e = .returned (.bool r) ∧ Below w.heap.size w w' := by
 have hu76 := Try.underlying76
 have HB := Aside0.mk (Below.refl w.heap.size w)
 have H : (if a0_0 = 0 then (round_sound.j0 k a0_0 (a0_0 == 0) a0_0 a0_1 a0_2 a0_3 a0_4 a0_5) else (round_sound.j0 k a0_0 (a0_0 == 2) a0_0 a0_1 a0_2 a0_3 a0_4 a0_5)) = some r := h
 clear h
 have HC2 := Aside0.mk H
 clear H
 go_enter Try.func69, Try.ntmps69
 go_upto_if 5 with (first | ((with_reducible refine gD (N := 1) rfl ?_); refine bE3 1 #[.int .i64 a0_0, .bool a0_1, .int .i64 a0_2, .int .u64 a0_3, .int .u64 a0_4, .bool a0_5] 76 ?hr ?_; (case hr => first | (go_simp; done) | (go_simp; rfl)); intro gb170 hg w3 hbox hb; have BK170 := Aside0.mk (hbox); have GW170 := Aside0.mk ((bZ3 hg HB.out)); have GE170 := Aside0.mk ((bZ3 hg HB.out)); replace HB := Aside0.mk (bS3 HB.out hb); clear hb hbox hg; obtain ⟨hcz4_0, hcz4_1, hcz4_2, hcz4_3, hcz4_4, hcz4_5, hfz4_0, hfz4_1, hfz4_2, hfz4_3, hfz4_4, hfz4_5⟩ := cl6 BK170.out))
 (try simp only [Act.put, lS_, lZ_, lC_])
 go_cut [5] (fun v5 wc => ∃ (kq : Nat) (x5_1 : Bool), v5 = .bool x5_1 ∧ Aside0 (round_sound.j0 kq a0_0 x5_1 a0_0 a0_1 a0_2 a0_3 a0_4 a0_5 = some r) ∧ Aside0 (kq ≤ k) ∧ Aside0 (wc.heap[gb170]? = some (.cells #[.int .i64 a0_0, .bool a0_1, .int .i64 a0_2, .int .u64 a0_3, .int .u64 a0_4, .bool a0_5] 76 (0, 0))) ∧ Aside0 (Below w.heap.size w wc))
 case first =>
  have H := HC2.out
  clear HC2
  by_cases c5 : a0_0 = 0
  ·
   rw [if_pos c5] at H
   have c5b0 : (a0_0 == 0) = true := beq_iff_eq.mpr c5
   have c5b1 : (a0_0 != 0) = false := bne_eq_false_iff_eq.mpr c5
   clear c5
   (first | rw [c5b0] | (simp only [i64_w, i32_w]; rw [c5b0]) | skip)
   have H' := Aside0.mk H
   clear H
   go_wp2
   go_meet
   case rel => exact ⟨_, ((a0_0 == 0)), (by first | rfl | (simp; done) | (simp [*]; done)), H', ⟨by first | omega | exact Nat.le_refl _⟩, ⟨bK3 BK170.out⟩, ⟨bR3 HB.out⟩⟩
  ·
   rw [if_neg c5] at H
   have c5b0 : (a0_0 == 0) = false := beq_eq_false_iff_ne.mpr c5
   have c5b1 : (a0_0 != 0) = true := bne_iff_ne.mpr c5
   (first | rw [c5b0] | (simp only [i64_w, i32_w]; rw [c5b0]) | skip)
   have H' := Aside0.mk H
   clear H
   go_wp2
   go_meet
   case rel => exact ⟨_, ((a0_0 == 2)), (by first | rfl | (simp; done) | (simp [*]; done)), H', ⟨by first | omega | exact Nat.le_refl _⟩, ⟨bK3 BK170.out⟩, ⟨bR3 HB.out⟩⟩
 case rest =>
  clear HC2
  try clear p2
  try clear c5
  try clear c5b0
  try clear c5b1
  try clear hcz4_0 hcz4_1 hcz4_2 hcz4_3 hcz4_4 hcz4_5 hfz4_0 hfz4_1 hfz4_2 hfz4_3 hfz4_4 hfz4_5
  obtain ⟨kq, x5_1, rfl, HA, HJ1, BK170, HB⟩ := hcut
  cases kq with
  | zero => exact absurd HA.out (by simp [round_sound.j0])
  | succ kj1 =>
   have H := HA.out
   clear HA
   simp only [round_sound.j0] at H
   by_cases c6 : x5_1 = true
   ·
    subst c6
    rw [if_pos rfl] at H
    obtain rfl := Option.some.inj H
    obtain ⟨hcz7_0, hcz7_1, hcz7_2, hcz7_3, hcz7_4, hcz7_5, hfz7_0, hfz7_1, hfz7_2, hfz7_3, hfz7_4, hfz7_5⟩ := cl6 BK170.out
    go_wp2
    go_ret
    exact ⟨eR3, bR3 HB.out⟩
   ·
    replace c6 := Bool.eq_false_iff.mpr c6
    subst c6
    rw [if_neg (show ¬ (false = true) by decide)] at H
    by_cases c8 : a0_0 = 1
    ·
     rw [if_pos c8] at H
     have c8b0 : (a0_0 == 1) = true := beq_iff_eq.mpr c8
     have c8b1 : (a0_0 != 1) = false := bne_eq_false_iff_eq.mpr c8
     clear c8
     by_cases c9 : (a0_3 / 9223372036854775808) = 1
     ·
      rw [if_pos c9] at H
      have c9b0 : ((a0_3 / 9223372036854775808) == 1) = true := beq_iff_eq.mpr c9
      have c9b1 : ((a0_3 / 9223372036854775808) != 1) = false := bne_eq_false_iff_eq.mpr c9
      clear c9
      replace H := Option.bind_eq_some_iff.mp H
      obtain ⟨t171, A100, H⟩ := H
      try dsimp -simprocs only at H
      have A10 := Aside0.mk A100
      clear A100
      obtain rfl := Option.some.inj H
      try go_wp2
      have n0_ := Aside0.mk (bD BK170.out)
      have n1_ := Aside0.mk (p1 HB.out)
      clear BK170
      clear HB
      have BK170 := n0_
      have HB := n1_
      clear n0_ n1_
      refine start_ (n := 13) (S := fun w' => w'.cell? ⟨gb170, 0, none⟩ = some (.int .i64 a0_0) ∧ w'.cell? ⟨gb170, 1, none⟩ = some (.bool a0_1) ∧ w'.cell? ⟨gb170, 2, none⟩ = some (.int .i64 a0_2) ∧ w'.cell? ⟨gb170, 3, none⟩ = some (.int .u64 a0_3) ∧ w'.cell? ⟨gb170, 4, none⟩ = some (.int .u64 a0_4) ∧ w'.cell? ⟨gb170, 5, none⟩ = some (.bool a0_5)) (ds := []) #[false, false, false, false, false, false, false, false, false, false, false, false, false] (by kernel_rfl) rfl rfl ⟨(blk_cell BK170.out 0).trans rfl, (blk_cell BK170.out 1).trans rfl, (blk_cell BK170.out 2).trans rfl, (blk_cell BK170.out 3).trans rfl, (blk_cell BK170.out 4).trans rfl, (blk_cell BK170.out 5).trans rfl⟩ (fun hHeld => ?_); refine with_tabW round_sound.tab6 round_sound.bits6 (fun HT_ HW_ => ?_)
      generalize wc.drew = w11 at BK170 HB hHeld ⊢
      refine pure_ (i := 0) (N := some 15) (v := ?_) (a' := ?_) #[true, false, false, false, false, false, false, false, false, false, false, false, false] rfl rfl (any_of HT_.out (by kernel_rfl)) (fun _ _ _ h => h) (Or.inl ⟨by rfl, ?_⟩) ?_ ?_
      rotate_left
      ·
       intro w'
       go_simp
       with_reducible rfl
      rotate_left
      ·
       simp only [Act.put, lS_, lZ_, lC_, i64_w, i32_w]
       rfl
      refine take_ (i := 1) (N := some 16) (v := ?_) (a' := ?_) #[true, true, false, false, false, false, false, false, false, false, false, false, false] rfl rfl (take_ofW HT_.out HW_.out (by kernel_rfl)) (fun _ _ _ h => h) (Or.inl ⟨by rfl, ?_⟩) hHeld ?_ ?_
      rotate_left
      ·
       rintro w' ⟨s0, s1, s2, s3, s4, s5⟩
       go_simp
       with_reducible rfl
      rotate_left
      ·
       simp only [Act.put, lS_, lZ_, lC_, i64_w, i32_w]
       rfl
      refine pure_ (i := 2) (N := some 17) (v := ?_) (a' := ?_) #[true, true, true, false, false, false, false, false, false, false, false, false, false] rfl rfl (any_of HT_.out (by kernel_rfl)) (fun _ _ _ h => h) (Or.inl ⟨by rfl, ?_⟩) ?_ ?_
      rotate_left
      ·
       intro w'
       go_simp
       with_reducible rfl
      rotate_left
      ·
       simp only [Act.put, lS_, lZ_, lC_, i64_w, i32_w]
       rfl
      refine pure_ (i := 3) (N := some 18) (v := ?_) (a' := ?_) #[true, true, true, true, false, false, false, false, false, false, false, false, false] rfl rfl (any_of HT_.out (by kernel_rfl)) (fun _ _ _ h => h) (Or.inl ⟨by rfl, ?_⟩) ?_ ?_
      rotate_left
      ·
       intro w'
       go_simp
       with_reducible rfl
      rotate_left
      ·
       simp only [Act.put, lS_, lZ_, lC_, i64_w, i32_w]
       rfl
      refine pure_ (i := 4) (N := some 19) (v := ?_) (a' := ?_) #[true, true, true, true, true, false, false, false, false, false, false, false, false] rfl rfl (any_of HT_.out (by kernel_rfl)) (fun _ _ _ h => h) (Or.inl ⟨by rfl, ?_⟩) ?_ ?_
      rotate_left
      ·
       intro w'
       go_simp
       with_reducible rfl
      rotate_left
      ·
       simp only [Act.put, lS_, lZ_, lC_, i64_w, i32_w]
       rfl
      refine pure_ (i := 5) (N := some 20) (v := ?_) (a' := ?_) #[true, true, true, true, true, true, false, false, false, false, false, false, false] rfl rfl (any_of HT_.out (by kernel_rfl)) (fun _ _ _ h => h) (Or.inl ⟨by rfl, ?_⟩) ?_ ?_
      rotate_left
      ·
       intro w'
       go_simp
       with_reducible rfl
      rotate_left
      ·
       simp only [Act.put, lS_, lZ_, lC_, i64_w, i32_w]
       rfl
      refine pure_ (i := 7) (N := some 22) (v := ?_) (a' := ?_) #[true, true, true, true, true, true, false, true, false, false, false, false, false] rfl rfl (any_of HT_.out (by kernel_rfl)) (fun _ _ _ h => h) (Or.inl ⟨by rfl, ?_⟩) ?_ ?_
      rotate_left
      ·
       intro w'
       go_simp
       with_reducible rfl
      rotate_left
      ·
       simp only [Act.put, lS_, lZ_, lC_, i64_w, i32_w]
       rfl
      refine take_ (i := 6) (N := some 21) (v := ?_) (a' := ?_) #[true, true, true, true, true, true, true, true, false, false, false, false, false] rfl rfl (take_ofW HT_.out HW_.out (by kernel_rfl)) (fun _ _ _ h => h) (Or.inl ⟨by rfl, ?_⟩) hHeld ?_ ?_
      rotate_left
      ·
       rintro w' ⟨s0, s1, s2, s3, s4, s5⟩
       go_simp
       with_reducible rfl
      rotate_left
      ·
       simp only [Act.put, lS_, lZ_, lC_, i64_w, i32_w]
       rfl
      refine take_ (i := 8) (N := some 23) (v := ?_) (a' := ?_) #[true, true, true, true, true, true, true, true, true, false, false, false, false] rfl rfl (take_ofW HT_.out HW_.out (by kernel_rfl)) (fun _ _ _ h => h) (Or.inl ⟨by rfl, ?_⟩) hHeld ?_ ?_
      rotate_left
      ·
       rintro w' ⟨s0, s1, s2, s3, s4, s5⟩
       go_simp
       with_reducible rfl
      rotate_left
      ·
       simp only [Act.put, lS_, lZ_, lC_, i64_w, i32_w]
       rfl
      refine one_ (i := 9) (N := some 24) #[true, true, true, true, true, true, true, true, true, true, false, false, false] rfl rfl (one_of HT_.out (by kernel_rfl)) (by decide) (fun K hK => ?_)
      refine goes_ Try.func52 (by kernel_rfl) rfl #[.int .i64 a0_2] (by rfl) rfl rfl (by (try simp only [List.map_toArray, List.map_cons, List.map_nil]); first | done | rfl | (simp only [List.length_drop, List.length_take]; rfl)) ?_
      with_reducible refine (round_held.calls a0_2 t171 _ A10.out).mono ?_
      rintro e w12 ⟨rfl, hb⟩
      refine ⟨_, rfl, ?_⟩
      have n0_ := Aside0.mk (bB3 BK170.out hb)
      have n1_ := Aside0.mk (bS3 HB.out hb)
      clear BK170
      clear HB
      have BK170 := n0_
      have HB := n1_
      clear n0_ n1_
      (try clear hb)
      (try clear hb2)
      (try clear hk)
      (try clear hi)
      refine hK.out _ _ ⟨(blk_cell BK170.out 0).trans rfl, (blk_cell BK170.out 1).trans rfl, (blk_cell BK170.out 2).trans rfl, (blk_cell BK170.out 3).trans rfl, (blk_cell BK170.out 4).trans rfl, (blk_cell BK170.out 5).trans rfl⟩ (fun hHeld => ?_)
      clear hK K
      refine norm_ (a' := ?_) ?_ ?_
      rotate_left
      ·
       show Act.put _ (some 24) _ = _
       simp only [Act.put, lS_, lZ_, lC_, i64_w, i32_w]
       rfl
      refine pure_ (i := 10) (N := some 25) (v := ?_) (a' := ?_) #[true, true, true, true, true, true, true, true, true, true, true, false, false] rfl rfl (any_of HT_.out (by kernel_rfl)) (fun _ _ _ h => h) (Or.inl ⟨by rfl, ?_⟩) ?_ ?_
      rotate_left
      ·
       intro w'
       go_simp
       with_reducible rfl
      rotate_left
      ·
       simp only [Act.put, lS_, lZ_, lC_, i64_w, i32_w]
       rfl
      refine pure_ (i := 11) (N := some 26) (v := ?_) (a' := ?_) #[true, true, true, true, true, true, true, true, true, true, true, true, false] rfl rfl (any_of HT_.out (by kernel_rfl)) (fun _ _ _ h => h) (Or.inl ⟨by rfl, ?_⟩) ?_ ?_
      rotate_left
      ·
       intro w'
       go_simp
       with_reducible rfl
      rotate_left
      ·
       simp only [Act.put, lS_, lZ_, lC_, i64_w, i32_w]
       rfl
      refine pure_ (i := 12) (N := some 2) (v := ?_) (a' := ?_) #[true, true, true, true, true, true, true, true, true, true, true, true, true] rfl rfl (any_of HT_.out (by kernel_rfl)) (fun _ _ _ h => h) (Or.inl ⟨by rfl, ?_⟩) ?_ ?_
      rotate_left
      ·
       intro w'
       go_simp
       with_reducible rfl
      rotate_left
      ·
       simp only [Act.put, lS_, lZ_, lC_, i64_w, i32_w]
       rfl
      refine done_ (done_of HT_.out (by kernel_rfl)) ?_
      try go_wp2
      go_ret
      exact ⟨eR3, bR3 HB.out⟩
     ·
      rw [if_neg c9] at H
      have c9b0 : ((a0_3 / 9223372036854775808) == 1) = false := beq_eq_false_iff_ne.mpr c9
      have c9b1 : ((a0_3 / 9223372036854775808) != 1) = true := bne_iff_ne.mpr c9
      obtain rfl := Option.some.inj H
      try go_wp2
      have n0_ := Aside0.mk (bD BK170.out)
      have n1_ := Aside0.mk (p1 HB.out)
      clear BK170
      clear HB
      have BK170 := n0_
      have HB := n1_
      clear n0_ n1_
      refine start_ (n := 13) (S := fun w' => w'.cell? ⟨gb170, 0, none⟩ = some (.int .i64 a0_0) ∧ w'.cell? ⟨gb170, 1, none⟩ = some (.bool a0_1) ∧ w'.cell? ⟨gb170, 2, none⟩ = some (.int .i64 a0_2) ∧ w'.cell? ⟨gb170, 3, none⟩ = some (.int .u64 a0_3) ∧ w'.cell? ⟨gb170, 4, none⟩ = some (.int .u64 a0_4) ∧ w'.cell? ⟨gb170, 5, none⟩ = some (.bool a0_5)) (ds := []) #[false, false, false, false, false, false, false, false, false, false, false, false, false] (by kernel_rfl) rfl rfl ⟨(blk_cell BK170.out 0).trans rfl, (blk_cell BK170.out 1).trans rfl, (blk_cell BK170.out 2).trans rfl, (blk_cell BK170.out 3).trans rfl, (blk_cell BK170.out 4).trans rfl, (blk_cell BK170.out 5).trans rfl⟩ (fun hHeld => ?_); refine with_tabW round_sound.tab6 round_sound.bits6 (fun HT_ HW_ => ?_)
      generalize wc.drew = w13 at BK170 HB hHeld ⊢
      refine pure_ (i := 0) (N := some 15) (v := ?_) (a' := ?_) #[true, false, false, false, false, false, false, false, false, false, false, false, false] rfl rfl (any_of HT_.out (by kernel_rfl)) (fun _ _ _ h => h) (Or.inl ⟨by rfl, ?_⟩) ?_ ?_
      rotate_left
      ·
       intro w'
       go_simp
       with_reducible rfl
      rotate_left
      ·
       simp only [Act.put, lS_, lZ_, lC_, i64_w, i32_w]
       rfl
      refine take_ (i := 1) (N := some 16) (v := ?_) (a' := ?_) #[true, true, false, false, false, false, false, false, false, false, false, false, false] rfl rfl (take_ofW HT_.out HW_.out (by kernel_rfl)) (fun _ _ _ h => h) (Or.inl ⟨by rfl, ?_⟩) hHeld ?_ ?_
      rotate_left
      ·
       rintro w' ⟨s0, s1, s2, s3, s4, s5⟩
       go_simp
       with_reducible rfl
      rotate_left
      ·
       simp only [Act.put, lS_, lZ_, lC_, i64_w, i32_w]
       rfl
      refine pure_ (i := 2) (N := some 17) (v := ?_) (a' := ?_) #[true, true, true, false, false, false, false, false, false, false, false, false, false] rfl rfl (any_of HT_.out (by kernel_rfl)) (fun _ _ _ h => h) (Or.inl ⟨by rfl, ?_⟩) ?_ ?_
      rotate_left
      ·
       intro w'
       go_simp
       with_reducible rfl
      rotate_left
      ·
       simp only [Act.put, lS_, lZ_, lC_, i64_w, i32_w]
       rfl
      refine pure_ (i := 3) (N := some 18) (v := ?_) (a' := ?_) #[true, true, true, true, false, false, false, false, false, false, false, false, false] rfl rfl (any_of HT_.out (by kernel_rfl)) (fun _ _ _ h => h) (Or.inl ⟨by rfl, ?_⟩) ?_ ?_
      rotate_left
      ·
       intro w'
       go_simp
       with_reducible rfl
      rotate_left
      ·
       simp only [Act.put, lS_, lZ_, lC_, i64_w, i32_w]
       rfl
      refine pure_ (i := 4) (N := some 19) (v := ?_) (a' := ?_) #[true, true, true, true, true, false, false, false, false, false, false, false, false] rfl rfl (any_of HT_.out (by kernel_rfl)) (fun _ _ _ h => h) (Or.inl ⟨by rfl, ?_⟩) ?_ ?_
      rotate_left
      ·
       intro w'
       go_simp
       with_reducible rfl
      rotate_left
      ·
       simp only [Act.put, lS_, lZ_, lC_, i64_w, i32_w]
       rfl
      refine pure_ (i := 5) (N := some 20) (v := undef) (a' := ?_) #[true, true, true, true, true, true, false, false, false, false, false, false, false] rfl rfl (any_of HT_.out (by kernel_rfl)) (fun _ _ _ h => h) (Or.inr ⟨by rfl, rfl⟩) ?_ ?_
      rotate_left
      ·
       simp only [Act.put, lS_, lZ_, lC_, i64_w, i32_w]
       rfl
      refine pure_ (i := 6) (N := some 21) (v := undef) (a' := ?_) #[true, true, true, true, true, true, true, false, false, false, false, false, false] rfl rfl (any_of HT_.out (by kernel_rfl)) (fun _ _ _ h => h) (Or.inr ⟨by rfl, rfl⟩) ?_ ?_
      rotate_left
      ·
       simp only [Act.put, lS_, lZ_, lC_, i64_w, i32_w]
       rfl
      refine pure_ (i := 7) (N := some 22) (v := undef) (a' := ?_) #[true, true, true, true, true, true, true, true, false, false, false, false, false] rfl rfl (any_of HT_.out (by kernel_rfl)) (fun _ _ _ h => h) (Or.inr ⟨by rfl, rfl⟩) ?_ ?_
      rotate_left
      ·
       simp only [Act.put, lS_, lZ_, lC_, i64_w, i32_w]
       rfl
      refine pure_ (i := 8) (N := some 23) (v := undef) (a' := ?_) #[true, true, true, true, true, true, true, true, true, false, false, false, false] rfl rfl (any_of HT_.out (by kernel_rfl)) (fun _ _ _ h => h) (Or.inr ⟨by rfl, rfl⟩) ?_ ?_
      rotate_left
      ·
       simp only [Act.put, lS_, lZ_, lC_, i64_w, i32_w]
       rfl
      refine pure_ (i := 9) (N := some 24) (v := undef) (a' := ?_) #[true, true, true, true, true, true, true, true, true, true, false, false, false] rfl rfl (any_of HT_.out (by kernel_rfl)) (fun _ _ _ h => h) (Or.inr ⟨by rfl, rfl⟩) ?_ ?_
      rotate_left
      ·
       simp only [Act.put, lS_, lZ_, lC_, i64_w, i32_w]
       rfl
      refine pure_ (i := 10) (N := some 25) (v := undef) (a' := ?_) #[true, true, true, true, true, true, true, true, true, true, true, false, false] rfl rfl (any_of HT_.out (by kernel_rfl)) (fun _ _ _ h => h) (Or.inr ⟨by rfl, rfl⟩) ?_ ?_
      rotate_left
      ·
       simp only [Act.put, lS_, lZ_, lC_, i64_w, i32_w]
       rfl
      refine pure_ (i := 11) (N := some 26) (v := ?_) (a' := ?_) #[true, true, true, true, true, true, true, true, true, true, true, true, false] rfl rfl (any_of HT_.out (by kernel_rfl)) (fun _ _ _ h => h) (Or.inl ⟨by rfl, ?_⟩) ?_ ?_
      rotate_left
      ·
       intro w'
       go_simp
       with_reducible rfl
      rotate_left
      ·
       simp only [Act.put, lS_, lZ_, lC_, i64_w, i32_w]
       rfl
      refine pure_ (i := 12) (N := some 2) (v := ?_) (a' := ?_) #[true, true, true, true, true, true, true, true, true, true, true, true, true] rfl rfl (any_of HT_.out (by kernel_rfl)) (fun _ _ _ h => h) (Or.inl ⟨by rfl, ?_⟩) ?_ ?_
      rotate_left
      ·
       intro w'
       go_simp
       with_reducible rfl
      rotate_left
      ·
       simp only [Act.put, lS_, lZ_, lC_, i64_w, i32_w]
       rfl
      refine done_ (done_of HT_.out (by kernel_rfl)) ?_
      try go_wp2
      go_ret
      exact ⟨eR3, bR3 HB.out⟩
    ·
     rw [if_neg c8] at H
     have c8b0 : (a0_0 == 1) = false := beq_eq_false_iff_ne.mpr c8
     have c8b1 : (a0_0 != 1) = true := bne_iff_ne.mpr c8
     obtain rfl := Option.some.inj H
     go_wp2
     go_ret
     exact ⟨eR3, bR3 HB.out⟩
def round_under.f (a0_0 : Int) (a0_1 : Int) (a1 : Int) (a2 : Int) (a3 : Bool) : Option (Int × Int × Bool) := (twin_Shr.f a0_0 a0_1 a2).bind fun bt188 => (if 0 ≤ (wrap64 (64 - a2)) then (if a3 = true then (some (Go.bits .or .u64 bt188.1 (shl .u64 a1 (wrap64 (64 - a2))), bt188.2.1, true)) else (some (Go.bits .or .u64 bt188.1 (shl .u64 a1 (wrap64 (64 - a2))), bt188.2.1, bt188.2.2.1))) else (none))
def round_under.T2 : Bool × List (List Nat × List Nat) := (true, [([], []), ([0], [0]), ([], []), ([], []), ([3], [3]), ([2, 4], [2, 4]), ([1, 5], [1, 5]), ([0, 1, 2, 3, 4, 5, 6], []), ([7, 6, 0, 1, 2, 3, 4, 5, 6], [6, 7])])
def round_under.B2 : List Nat := [0, 1, 0, 0, 8, 28, 63, 127, 255]
theorem round_under.tab2 : rtab .any (opsOf Try.f71 2) = round_under.T2 := by kernel_rfl
theorem round_under.bits2 : waitsOk round_under.T2.2 round_under.B2 = true := by kernel_rfl
set_option maxHeartbeats 8000000 in
set_option maxRecDepth 100000 in
theorem round_under.calls (a0_0 : Int) (a0_1 : Int) (a1 : Int) (a2 : Int) (a3 : Bool) (r1 : Int) (r2 : Int) (r3 : Bool) (w : World) (h : round_under.f a0_0 a0_1 a1 a2 a3 = some (r1, r2, r3)) :
  Calls Try.prog 71 #[.agg #[.int .u64 a0_0, .int .u64 a0_1], .int .u64 a1, .int .i64 a2, .bool a3] w fun e w' => e = .returned (.tuple #[.agg #[.int .u64 r1, .int .u64 r2], .bool r3]) ∧ Below w.heap.size w w' := by
 have hu100 := Try.underlying100
 have HB := Aside0.mk (Below.refl w.heap.size w)
 have H : ((twin_Shr.f a0_0 a0_1 a2).bind fun bt188 => (if 0 ≤ (wrap64 (64 - a2)) then (if a3 = true then (some (Go.bits .or .u64 bt188.1 (shl .u64 a1 (wrap64 (64 - a2))), bt188.2.1, true)) else (some (Go.bits .or .u64 bt188.1 (shl .u64 a1 (wrap64 (64 - a2))), bt188.2.1, bt188.2.2.1))) else (none))) = some (r1, r2, r3) := h
 clear h
 replace H := Option.bind_eq_some_iff.mp H
 obtain ⟨⟨t188, t189, t190, t191⟩, A50, H⟩ := H
 try dsimp -simprocs only at H
 have A5 := Aside0.mk A50
 clear A50
 obtain ⟨ji6, hji6⟩ : ∃ j_ : Int, (wrap64 (64 - a2)) = j_ := ⟨_, rfl⟩
 replace H : (if 0 ≤ (ji6) then (if a3 = true then (some (Go.bits .or .u64 t188 (shl .u64 a1 (ji6)), t189, true)) else (some (Go.bits .or .u64 t188 (shl .u64 a1 (ji6)), t189, t190))) else (none)) = some (r1, r2, r3) := by first | (rw [hji6] at H; exact H) | (simp only [hji6] at H ⊢; exact H)
 (try rw [hji6] at A5)
 have hji6w : (IntKind.i64.wrap (64 - a2)) = ji6 := (i64_w _).trans hji6
 by_cases c7 : 0 ≤ (ji6)
 ·
  rw [if_pos c7] at H
  have c7b0 := eq_true c7
  have c7b1 : decide (0 ≤ (ji6)) = true := decide_eq_true c7
  clear c7
  obtain ⟨ji8, hji8⟩ : ∃ j_ : Int, (shl .u64 a1 (ji6)) = j_ := ⟨_, rfl⟩
  replace H : (if a3 = true then (some (Go.bits .or .u64 t188 (ji8), t189, true)) else (some (Go.bits .or .u64 t188 (ji8), t189, t190))) = some (r1, r2, r3) := by first | (rw [hji8] at H; exact H) | (simp only [hji8] at H ⊢; exact H)
  (try rw [hji8] at A5)
  have hji8_ : (IntKind.u64.wrap (a1 * 2 ^ min (ji6).toNat 64)) = ji8 := hji8
  have hji8z : (ji6) ≤ 64 → (IntKind.u64.wrap (a1 * 2 ^ (ji6).toNat)) = ji8 := shl_small hji8
  by_cases c9 : a3 = true
  ·
   subst c9
   rw [if_pos rfl] at H
   simp only [Option.some.injEq, Prod.mk.injEq] at H
   obtain ⟨rfl, rfl, rfl⟩ := H
   go_enter Try.func71, Try.ntmps71
   try go_wp2_with (first | ((with_reducible refine gD (N := 4) rfl ?_); refine bE3 4 #[.int .u64 a0_0, .int .u64 a0_1] 100 ?hr ?_; (case hr => first | (go_simp; done) | (go_simp; rfl)); intro gb186 hg w10 hbox hb; have BK186 := Aside0.mk (hbox); have GW186 := Aside0.mk ((bZ3 hg HB.out)); have GE186 := Aside0.mk ((bZ3 hg HB.out)); replace HB := Aside0.mk (bS3 HB.out hb); clear hb hbox hg) | ((with_reducible refine gD (N := 8) rfl ?_); refine bE3 8 #[.int .u64 0, .int .u64 0] 100 ?hr ?_; (case hr => first | (go_simp; done) | (go_simp; rfl)); intro gb187 hg w11 hbox hb; have BK187 := Aside0.mk (hbox); have GW187 := Aside0.mk ((bZ3 hg HB.out)); have GE187 := Aside0.mk ((bZ3 hg HB.out)); replace HB := Aside0.mk (bS3 HB.out hb); have NB186_187 := Aside0.mk ((bL3 hg BK186.out)); have NB187_186 := Aside0.mk ((bG3 hg BK186.out)); replace BK186 := Aside0.mk (bB3 BK186.out hb); clear hb hbox hg; have hnb12 := NB186_187.out; have hnc12 := NB187_186.out; obtain ⟨hcz13_0, hcz13_1, hfz13_0, hfz13_1⟩ := cl2 BK186.out) | ((with_reducible refine gX_ 79 16 rfl rfl ?_); refine goesY_ (some 16) Try.func79 #[.agg #[.int .u64 a0_0, .int .u64 a0_1], .int .i64 a2] ?_; (with_reducible refine (twin_Shr.calls a0_0 a0_1 a2 t188 t189 t190 t191 _ A5.out).mono ?_); rintro e w14 ⟨rfl, hb⟩; refine ⟨_, rfl, ?_⟩; replace BK186 := Aside0.mk (bB3 BK186.out hb); replace BK187 := Aside0.mk (bB3 BK187.out hb); replace HB := Aside0.mk (bS3 HB.out hb); (try clear hb); (try clear hk); (try simp only [errW_none, errW_some])) | ((with_reducible refine gD (N := 10) rfl ?_); refine bE3 10 #[.int .u64 0, .int .u64 0] 100 ?hr ?_; (case hr => first | (go_simp; done) | (go_simp; rfl)); intro gb192 hg w15 hbox hb; have BK192 := Aside0.mk (hbox); have GW192 := Aside0.mk ((bZ3 hg HB.out)); have GE192 := Aside0.mk ((bZ3 hg HB.out)); replace HB := Aside0.mk (bS3 HB.out hb); have NB186_192 := Aside0.mk ((bL3 hg BK186.out)); have NB192_186 := Aside0.mk ((bG3 hg BK186.out)); replace BK186 := Aside0.mk (bB3 BK186.out hb); have NB187_192 := Aside0.mk ((bL3 hg BK187.out)); have NB192_187 := Aside0.mk ((bG3 hg BK187.out)); replace BK187 := Aside0.mk (bB3 BK187.out hb); clear hb hbox hg; have hnb16 := NB192_186.out; have hnc16 := NB186_192.out; have hnb17 := NB192_187.out; have hnc17 := NB187_192.out; obtain ⟨hcz18_0, hcz18_1, hfz18_0, hfz18_1⟩ := cl2 BK192.out))
   have n0_ : Aside0 (((w15.setCell ⟨gb192, 0, none⟩ (.int .u64 t188)).setCell ⟨gb192, 1, none⟩ (.int .u64 t189)).heap[gb186]? = some (.cells #[.int .u64 a0_0, .int .u64 a0_1] 100 (0, 0))) := ⟨bQ3 BK186.out⟩
   have n1_ : Aside0 (((w15.setCell ⟨gb192, 0, none⟩ (.int .u64 t188)).setCell ⟨gb192, 1, none⟩ (.int .u64 t189)).heap[gb187]? = some (.cells #[.int .u64 0, .int .u64 0] 100 (0, 0))) := ⟨bQ3 BK187.out⟩
   have n2_ : Aside0 (((w15.setCell ⟨gb192, 0, none⟩ (.int .u64 t188)).setCell ⟨gb192, 1, none⟩ (.int .u64 t189)).heap[gb192]? = some (.cells #[.int .u64 t188, .int .u64 t189] 100 (0, 0))) := ⟨bQ3 BK192.out⟩
   have n3_ : Aside0 (Below w.heap.size w ((w15.setCell ⟨gb192, 0, none⟩ (.int .u64 t188)).setCell ⟨gb192, 1, none⟩ (.int .u64 t189))) := ⟨bR3 HB.out⟩
   (try clear BK186)
   (try clear BK187)
   (try clear BK192)
   (try clear HB)
   generalize ((w15.setCell ⟨gb192, 0, none⟩ (.int .u64 t188)).setCell ⟨gb192, 1, none⟩ (.int .u64 t189)) = w19 at n0_ n1_ n2_ n3_ ⊢
   have BK186 := n0_
   have BK187 := n1_
   have BK192 := n2_
   have HB := n3_
   clear n0_ n1_ n2_ n3_
   have n0_ := Aside0.mk (bD BK186.out)
   have n1_ := Aside0.mk (bD BK187.out)
   have n2_ := Aside0.mk (bD BK192.out)
   have n3_ := Aside0.mk (p1 HB.out)
   clear BK186
   clear BK187
   clear BK192
   clear HB
   have BK186 := n0_
   have BK187 := n1_
   have BK192 := n2_
   have HB := n3_
   clear n0_ n1_ n2_ n3_
   refine start_ (n := 9) (S := fun w' => w'.cell? ⟨gb192, 0, none⟩ = some (.int .u64 t188) ∧ w'.cell? ⟨gb192, 1, none⟩ = some (.int .u64 t189)) (ds := [8]) #[false, false, false, false, false, false, false, false, false] (by kernel_rfl) rfl rfl ⟨(blk_cell BK192.out 0).trans rfl, (blk_cell BK192.out 1).trans rfl⟩ (fun hHeld => ?_); refine with_tabW round_under.tab2 round_under.bits2 (fun HT_ HW_ => ?_)
   generalize w19.drew = w20 at BK186 BK187 BK192 HB hHeld ⊢
   refine pure_ (i := 0) (N := some 20) (v := ?_) (a' := ?_) #[true, false, false, false, false, false, false, false, false] rfl rfl (any_of HT_.out (by kernel_rfl)) (fun _ _ _ h => h) (Or.inl ⟨by rfl, ?_⟩) ?_ ?_
   rotate_left
   ·
    intro w'
    go_simp
    with_reducible rfl
   rotate_left
   ·
    simp only [Act.put, lS_, lZ_, lC_, i64_w, i32_w]
    rfl
   refine pure_ (i := 2) (N := some 22) (v := ?_) (a' := ?_) #[true, false, true, false, false, false, false, false, false] rfl rfl (any_of HT_.out (by kernel_rfl)) (fun _ _ _ h => h) (Or.inl ⟨by rfl, ?_⟩) ?_ ?_
   rotate_left
   ·
    intro w'
    go_simp
    with_reducible rfl
   rotate_left
   ·
    simp only [Act.put, lS_, lZ_, lC_, i64_w, i32_w]
    rfl
   refine pure_ (i := 3) (N := some 23) (v := ?_) (a' := ?_) #[true, false, true, true, false, false, false, false, false] rfl rfl (any_of HT_.out (by kernel_rfl)) (fun _ _ _ h => h) (Or.inl ⟨by rfl, ?_⟩) ?_ ?_
   rotate_left
   ·
    intro w'
    go_simp
    with_reducible rfl
   rotate_left
   ·
    simp only [Act.put, lS_, lZ_, lC_, i64_w, i32_w]
    rfl
   refine pure_ (i := 4) (N := some 24) (v := ?_) (a' := ?_) #[true, false, true, true, true, false, false, false, false] rfl rfl (any_of HT_.out (by kernel_rfl)) (fun _ _ _ h => h) (Or.inl ⟨by rfl, ?_⟩) ?_ ?_
   rotate_left
   ·
    intro w'
    go_simp
    with_reducible rfl
   rotate_left
   ·
    simp only [Act.put, lS_, lZ_, lC_, i64_w, i32_w]
    rfl
   refine pure_ (i := 5) (N := some 25) (v := ?_) (a' := ?_) #[true, false, true, true, true, true, false, false, false] rfl rfl (any_of HT_.out (by kernel_rfl)) (fun _ _ _ h => h) (Or.inl ⟨by rfl, ?_⟩) ?_ ?_
   rotate_left
   ·
    intro w'
    go_simp
    with_reducible rfl
   rotate_left
   ·
    simp only [Act.put, lS_, lZ_, lC_, i64_w, i32_w]
    rfl
   refine take_ (i := 1) (N := some 21) (v := ?_) (a' := ?_) #[true, true, true, true, true, true, false, false, false] rfl rfl (take_ofW HT_.out HW_.out (by kernel_rfl)) (fun _ _ _ h => h) (Or.inl ⟨by rfl, ?_⟩) hHeld ?_ ?_
   rotate_left
   ·
    rintro w' ⟨s0, s1⟩
    go_simp
    with_reducible rfl
   rotate_left
   ·
    simp only [Act.put, lS_, lZ_, lC_, i64_w, i32_w]
    rfl
   refine pure_ (i := 6) (N := some 26) (v := ?_) (a' := ?_) #[true, true, true, true, true, true, true, false, false] rfl rfl (any_of HT_.out (by kernel_rfl)) (fun _ _ _ h => h) (Or.inl ⟨by rfl, ?_⟩) ?_ ?_
   rotate_left
   ·
    intro w'
    go_simp
    with_reducible rfl
   rotate_left
   ·
    simp only [Act.put, lS_, lZ_, lC_, i64_w, i32_w]
    rfl
   refine pure_ (i := 7) (N := some 27) (v := ?_) (a' := ?_) #[true, true, true, true, true, true, true, true, false] rfl rfl (any_of HT_.out (by kernel_rfl)) (fun _ _ _ h => h) (Or.inl ⟨by rfl, ?_⟩) ?_ ?_
   rotate_left
   ·
    intro w'
    go_simp
    with_reducible rfl
   rotate_left
   ·
    simp only [Act.put, lS_, lZ_, lC_, i64_w, i32_w]
    rfl
   refine last_ (i := 8) (N := none) #[true, true, true, true, true, true, true, true, true] rfl rfl (one_of HT_.out (by kernel_rfl)) (by decide) (fun K hK => ?_)
   have hs21 : w20.cell? ⟨gb192, 0, none⟩ = some (.int .u64 t188) := (blk_cell BK192.out 0).trans rfl
   have hfs21 := blk_frozen BK192.out 0
   have hns21_0 := NB186_192.out
   have hns21_1 := NB187_192.out
   have hms21_0 := NB192_186.out
   have hms21_1 := NB192_187.out
   refine skip_ (w1 := ?_) (by rfl) rfl ?_ ?_
   rotate_left
   ·
    go_simp
    rfl
   refine hK.out _ _ ?_
   clear hK K
   refine done_ (done_of HT_.out (by kernel_rfl)) ?_
   obtain ⟨hcz22_0, hcz22_1, hfz22_0, hfz22_1⟩ := cl2 BK192.out
   obtain ⟨hcz23_0, hcz23_1, hfz23_0, hfz23_1⟩ := cl2 BK187.out
   try go_wp2
   refine bodyPost_ret (results_ct rfl _ _ gb187 100 #[.int .u64 (Go.bits .or .u64 t188 (ji8)), .int .u64 t189] (0, 0) _ rfl (bQ3 BK187.out) Try.underlying100 rfl (by kernel_rfl)) rfl ?_
   exact ⟨by first | rfl | (simp [errW_none, errW_some] <;> rfl) | (simp only [← hji6, ← hji8]; first | rfl | (simp [errW_none, errW_some] <;> rfl)) | (simp [*, errW_none, errW_some] <;> rfl), bR3 HB.out⟩
  ·
   replace c9 := Bool.eq_false_iff.mpr c9
   subst c9
   rw [if_neg (show ¬ (false = true) by decide)] at H
   simp only [Option.some.injEq, Prod.mk.injEq] at H
   obtain ⟨rfl, rfl, rfl⟩ := H
   go_enter Try.func71, Try.ntmps71
   try go_wp2_with (first | ((with_reducible refine gD (N := 4) rfl ?_); refine bE3 4 #[.int .u64 a0_0, .int .u64 a0_1] 100 ?hr ?_; (case hr => first | (go_simp; done) | (go_simp; rfl)); intro gb186 hg w24 hbox hb; have BK186 := Aside0.mk (hbox); have GW186 := Aside0.mk ((bZ3 hg HB.out)); have GE186 := Aside0.mk ((bZ3 hg HB.out)); replace HB := Aside0.mk (bS3 HB.out hb); clear hb hbox hg) | ((with_reducible refine gD (N := 8) rfl ?_); refine bE3 8 #[.int .u64 0, .int .u64 0] 100 ?hr ?_; (case hr => first | (go_simp; done) | (go_simp; rfl)); intro gb187 hg w25 hbox hb; have BK187 := Aside0.mk (hbox); have GW187 := Aside0.mk ((bZ3 hg HB.out)); have GE187 := Aside0.mk ((bZ3 hg HB.out)); replace HB := Aside0.mk (bS3 HB.out hb); have NB186_187 := Aside0.mk ((bL3 hg BK186.out)); have NB187_186 := Aside0.mk ((bG3 hg BK186.out)); replace BK186 := Aside0.mk (bB3 BK186.out hb); clear hb hbox hg; have hnb26 := NB186_187.out; have hnc26 := NB187_186.out; obtain ⟨hcz27_0, hcz27_1, hfz27_0, hfz27_1⟩ := cl2 BK186.out) | ((with_reducible refine gX_ 79 16 rfl rfl ?_); refine goesY_ (some 16) Try.func79 #[.agg #[.int .u64 a0_0, .int .u64 a0_1], .int .i64 a2] ?_; (with_reducible refine (twin_Shr.calls a0_0 a0_1 a2 t188 t189 t190 t191 _ A5.out).mono ?_); rintro e w28 ⟨rfl, hb⟩; refine ⟨_, rfl, ?_⟩; replace BK186 := Aside0.mk (bB3 BK186.out hb); replace BK187 := Aside0.mk (bB3 BK187.out hb); replace HB := Aside0.mk (bS3 HB.out hb); (try clear hb); (try clear hk); (try simp only [errW_none, errW_some])) | ((with_reducible refine gD (N := 10) rfl ?_); refine bE3 10 #[.int .u64 0, .int .u64 0] 100 ?hr ?_; (case hr => first | (go_simp; done) | (go_simp; rfl)); intro gb192 hg w29 hbox hb; have BK192 := Aside0.mk (hbox); have GW192 := Aside0.mk ((bZ3 hg HB.out)); have GE192 := Aside0.mk ((bZ3 hg HB.out)); replace HB := Aside0.mk (bS3 HB.out hb); have NB186_192 := Aside0.mk ((bL3 hg BK186.out)); have NB192_186 := Aside0.mk ((bG3 hg BK186.out)); replace BK186 := Aside0.mk (bB3 BK186.out hb); have NB187_192 := Aside0.mk ((bL3 hg BK187.out)); have NB192_187 := Aside0.mk ((bG3 hg BK187.out)); replace BK187 := Aside0.mk (bB3 BK187.out hb); clear hb hbox hg; have hnb30 := NB192_186.out; have hnc30 := NB186_192.out; have hnb31 := NB192_187.out; have hnc31 := NB187_192.out; obtain ⟨hcz32_0, hcz32_1, hfz32_0, hfz32_1⟩ := cl2 BK192.out))
   have n0_ : Aside0 (((w29.setCell ⟨gb192, 0, none⟩ (.int .u64 t188)).setCell ⟨gb192, 1, none⟩ (.int .u64 t189)).heap[gb186]? = some (.cells #[.int .u64 a0_0, .int .u64 a0_1] 100 (0, 0))) := ⟨bQ3 BK186.out⟩
   have n1_ : Aside0 (((w29.setCell ⟨gb192, 0, none⟩ (.int .u64 t188)).setCell ⟨gb192, 1, none⟩ (.int .u64 t189)).heap[gb187]? = some (.cells #[.int .u64 0, .int .u64 0] 100 (0, 0))) := ⟨bQ3 BK187.out⟩
   have n2_ : Aside0 (((w29.setCell ⟨gb192, 0, none⟩ (.int .u64 t188)).setCell ⟨gb192, 1, none⟩ (.int .u64 t189)).heap[gb192]? = some (.cells #[.int .u64 t188, .int .u64 t189] 100 (0, 0))) := ⟨bQ3 BK192.out⟩
   have n3_ : Aside0 (Below w.heap.size w ((w29.setCell ⟨gb192, 0, none⟩ (.int .u64 t188)).setCell ⟨gb192, 1, none⟩ (.int .u64 t189))) := ⟨bR3 HB.out⟩
   (try clear BK186)
   (try clear BK187)
   (try clear BK192)
   (try clear HB)
   generalize ((w29.setCell ⟨gb192, 0, none⟩ (.int .u64 t188)).setCell ⟨gb192, 1, none⟩ (.int .u64 t189)) = w33 at n0_ n1_ n2_ n3_ ⊢
   have BK186 := n0_
   have BK187 := n1_
   have BK192 := n2_
   have HB := n3_
   clear n0_ n1_ n2_ n3_
   have n0_ := Aside0.mk (bD BK186.out)
   have n1_ := Aside0.mk (bD BK187.out)
   have n2_ := Aside0.mk (bD BK192.out)
   have n3_ := Aside0.mk (p1 HB.out)
   clear BK186
   clear BK187
   clear BK192
   clear HB
   have BK186 := n0_
   have BK187 := n1_
   have BK192 := n2_
   have HB := n3_
   clear n0_ n1_ n2_ n3_
   refine start_ (n := 9) (S := fun w' => w'.cell? ⟨gb192, 0, none⟩ = some (.int .u64 t188) ∧ w'.cell? ⟨gb192, 1, none⟩ = some (.int .u64 t189)) (ds := [8]) #[false, false, false, false, false, false, false, false, false] (by kernel_rfl) rfl rfl ⟨(blk_cell BK192.out 0).trans rfl, (blk_cell BK192.out 1).trans rfl⟩ (fun hHeld => ?_); refine with_tabW round_under.tab2 round_under.bits2 (fun HT_ HW_ => ?_)
   generalize w33.drew = w34 at BK186 BK187 BK192 HB hHeld ⊢
   refine pure_ (i := 0) (N := some 20) (v := ?_) (a' := ?_) #[true, false, false, false, false, false, false, false, false] rfl rfl (any_of HT_.out (by kernel_rfl)) (fun _ _ _ h => h) (Or.inl ⟨by rfl, ?_⟩) ?_ ?_
   rotate_left
   ·
    intro w'
    go_simp
    with_reducible rfl
   rotate_left
   ·
    simp only [Act.put, lS_, lZ_, lC_, i64_w, i32_w]
    rfl
   refine pure_ (i := 2) (N := some 22) (v := ?_) (a' := ?_) #[true, false, true, false, false, false, false, false, false] rfl rfl (any_of HT_.out (by kernel_rfl)) (fun _ _ _ h => h) (Or.inl ⟨by rfl, ?_⟩) ?_ ?_
   rotate_left
   ·
    intro w'
    go_simp
    with_reducible rfl
   rotate_left
   ·
    simp only [Act.put, lS_, lZ_, lC_, i64_w, i32_w]
    rfl
   refine pure_ (i := 3) (N := some 23) (v := ?_) (a' := ?_) #[true, false, true, true, false, false, false, false, false] rfl rfl (any_of HT_.out (by kernel_rfl)) (fun _ _ _ h => h) (Or.inl ⟨by rfl, ?_⟩) ?_ ?_
   rotate_left
   ·
    intro w'
    go_simp
    with_reducible rfl
   rotate_left
   ·
    simp only [Act.put, lS_, lZ_, lC_, i64_w, i32_w]
    rfl
   refine pure_ (i := 4) (N := some 24) (v := ?_) (a' := ?_) #[true, false, true, true, true, false, false, false, false] rfl rfl (any_of HT_.out (by kernel_rfl)) (fun _ _ _ h => h) (Or.inl ⟨by rfl, ?_⟩) ?_ ?_
   rotate_left
   ·
    intro w'
    go_simp
    with_reducible rfl
   rotate_left
   ·
    simp only [Act.put, lS_, lZ_, lC_, i64_w, i32_w]
    rfl
   refine pure_ (i := 5) (N := some 25) (v := ?_) (a' := ?_) #[true, false, true, true, true, true, false, false, false] rfl rfl (any_of HT_.out (by kernel_rfl)) (fun _ _ _ h => h) (Or.inl ⟨by rfl, ?_⟩) ?_ ?_
   rotate_left
   ·
    intro w'
    go_simp
    with_reducible rfl
   rotate_left
   ·
    simp only [Act.put, lS_, lZ_, lC_, i64_w, i32_w]
    rfl
   refine take_ (i := 1) (N := some 21) (v := ?_) (a' := ?_) #[true, true, true, true, true, true, false, false, false] rfl rfl (take_ofW HT_.out HW_.out (by kernel_rfl)) (fun _ _ _ h => h) (Or.inl ⟨by rfl, ?_⟩) hHeld ?_ ?_
   rotate_left
   ·
    rintro w' ⟨s0, s1⟩
    go_simp
    with_reducible rfl
   rotate_left
   ·
    simp only [Act.put, lS_, lZ_, lC_, i64_w, i32_w]
    rfl
   refine pure_ (i := 6) (N := some 26) (v := ?_) (a' := ?_) #[true, true, true, true, true, true, true, false, false] rfl rfl (any_of HT_.out (by kernel_rfl)) (fun _ _ _ h => h) (Or.inl ⟨by rfl, ?_⟩) ?_ ?_
   rotate_left
   ·
    intro w'
    go_simp
    with_reducible rfl
   rotate_left
   ·
    simp only [Act.put, lS_, lZ_, lC_, i64_w, i32_w]
    rfl
   refine pure_ (i := 7) (N := some 27) (v := ?_) (a' := ?_) #[true, true, true, true, true, true, true, true, false] rfl rfl (any_of HT_.out (by kernel_rfl)) (fun _ _ _ h => h) (Or.inl ⟨by rfl, ?_⟩) ?_ ?_
   rotate_left
   ·
    intro w'
    go_simp
    with_reducible rfl
   rotate_left
   ·
    simp only [Act.put, lS_, lZ_, lC_, i64_w, i32_w]
    rfl
   refine last_ (i := 8) (N := none) #[true, true, true, true, true, true, true, true, true] rfl rfl (one_of HT_.out (by kernel_rfl)) (by decide) (fun K hK => ?_)
   have hs35 : w34.cell? ⟨gb192, 0, none⟩ = some (.int .u64 t188) := (blk_cell BK192.out 0).trans rfl
   have hfs35 := blk_frozen BK192.out 0
   have hns35_0 := NB186_192.out
   have hns35_1 := NB187_192.out
   have hms35_0 := NB192_186.out
   have hms35_1 := NB192_187.out
   refine skip_ (w1 := ?_) (by rfl) rfl ?_ ?_
   rotate_left
   ·
    go_simp
    rfl
   refine hK.out _ _ ?_
   clear hK K
   refine done_ (done_of HT_.out (by kernel_rfl)) ?_
   obtain ⟨hcz36_0, hcz36_1, hfz36_0, hfz36_1⟩ := cl2 BK192.out
   obtain ⟨hcz37_0, hcz37_1, hfz37_0, hfz37_1⟩ := cl2 BK187.out
   try go_wp2
   refine bodyPost_ret (results_ct rfl _ _ gb187 100 #[.int .u64 (Go.bits .or .u64 t188 (ji8)), .int .u64 t189] (0, 0) _ rfl (bQ3 BK187.out) Try.underlying100 rfl (by kernel_rfl)) rfl ?_
   exact ⟨by first | rfl | (simp [errW_none, errW_some] <;> rfl) | (simp only [← hji6, ← hji8]; first | rfl | (simp [errW_none, errW_some] <;> rfl)) | (simp [*, errW_none, errW_some] <;> rfl), bR3 HB.out⟩
 ·
  rw [if_neg c7] at H
  exact absurd H (by simp)
def round_left.j0 : Nat → Int → Bool → Int → Bool → Option (Int)
 | 0, _, _, _, _ => none
 | k + 1, x0, x1, x5, x6 => if x6 = true then (some 3) else (if x0 = x5 then (some 2) else (if x0 > 0 then (some 1) else (if x1 = true then (some 1) else (some 0))))
def round_left.f (k : Nat) (a0 : Int) (a1 : Bool) : Option (Int) := if a0 > 9223372036854775808 then (round_left.j0 k a0 a1 9223372036854775808 (decide (a0 > 9223372036854775808))) else (if a0 = 9223372036854775808 then (round_left.j0 k a0 a1 9223372036854775808 a1) else (round_left.j0 k a0 a1 9223372036854775808 false))
set_option maxHeartbeats 8000000 in
set_option maxRecDepth 100000 in
theorem round_left.calls (k : Nat) (a0 : Int) (a1 : Bool) (r : Int) (w : World) (h : round_left.f k a0 a1 = some r) :
  Calls Try.prog 72 #[.int .u64 a0, .bool a1] w fun e w' => e = .returned (.int .i64 r) ∧ Drawn0 w w' := by
 have H : (if a0 > 9223372036854775808 then (round_left.j0 k a0 a1 9223372036854775808 (decide (a0 > 9223372036854775808))) else (if a0 = 9223372036854775808 then (round_left.j0 k a0 a1 9223372036854775808 a1) else (round_left.j0 k a0 a1 9223372036854775808 false))) = some r := h
 clear h
 have HC3 := Aside0.mk H
 clear H
 go_enter Try.func72, Try.ntmps72
 go_upto_if 6 with (fail)
 go_cut [6] (fun v6 wc => ∃ (kq : Nat) (x6_2 : Bool), v6 = .bool x6_2 ∧ Aside0 (round_left.j0 kq a0 a1 9223372036854775808 x6_2 = some r) ∧ Aside0 (kq ≤ k) ∧ Drawn0 w wc)
 case first =>
  have H := HC3.out
  clear HC3
  by_cases c4 : a0 > 9223372036854775808
  ·
   rw [if_pos c4] at H
   have c4b0 : decide (9223372036854775808 < a0) = true := decide_eq_true c4
   clear c4
   (first | rw [c4b0] | (simp only [i64_w, i32_w]; rw [c4b0]) | skip)
   have H' := Aside0.mk H
   clear H
   go_wp2
   go_meet
   case rel => exact ⟨_, (decide (a0 > 9223372036854775808)), (by first | rfl | (simp; done) | (simp [*]; done)), H', ⟨by first | omega | exact Nat.le_refl _⟩, by repeat (first | exact Drawn0.refl _ | apply Drawn0.step)⟩
  ·
   rw [if_neg c4] at H
   have c4b0 : decide (9223372036854775808 < a0) = false := decide_eq_false c4
   clear c4
   (first | rw [c4b0] | (simp only [i64_w, i32_w]; rw [c4b0]) | skip)
   by_cases c5 : a0 = 9223372036854775808
   ·
    rw [if_pos c5] at H
    have c5b0 : (a0 == 9223372036854775808) = true := beq_iff_eq.mpr c5
    have c5b1 : (a0 != 9223372036854775808) = false := bne_eq_false_iff_eq.mpr c5
    clear c5
    have H' := Aside0.mk H
    clear H
    go_wp2
    go_meet
    case rel => exact ⟨_, (a1), (by first | rfl | (simp; done) | (simp [*]; done)), H', ⟨by first | omega | exact Nat.le_refl _⟩, by repeat (first | exact Drawn0.refl _ | apply Drawn0.step)⟩
   ·
    rw [if_neg c5] at H
    have c5b0 : (a0 == 9223372036854775808) = false := beq_eq_false_iff_ne.mpr c5
    have c5b1 : (a0 != 9223372036854775808) = true := bne_iff_ne.mpr c5
    have H' := Aside0.mk H
    clear H
    go_wp2
    go_meet
    case rel => exact ⟨_, (false), (by first | rfl | (simp; done) | (simp [*]; done)), H', ⟨by first | omega | exact Nat.le_refl _⟩, by repeat (first | exact Drawn0.refl _ | apply Drawn0.step)⟩
 case rest =>
  clear HC3
  try clear p2
  try clear c4
  try clear c4b0
  try clear c5
  try clear c5b0
  try clear c5b1
  obtain ⟨kq, x6_2, rfl, HA, HJ2, ⟨mc2, rfl⟩⟩ := hcut
  cases kq with
  | zero => exact absurd HA.out (by simp [round_left.j0])
  | succ kj2 =>
   have H := HA.out
   clear HA
   simp only [round_left.j0] at H
   by_cases c6 : x6_2 = true
   ·
    subst c6
    rw [if_pos rfl] at H
    obtain rfl := Option.some.inj H
    go_wp2
    go_ret
    exact ⟨by first | rfl | (simp; done) | (simp [*]; done), by repeat (first | exact Drawn0.refl _ | apply Drawn0.step)⟩
   ·
    replace c6 := Bool.eq_false_iff.mpr c6
    subst c6
    rw [if_neg (show ¬ (false = true) by decide)] at H
    by_cases c7 : a0 = 9223372036854775808
    ·
     rw [if_pos c7] at H
     have c7b0 : (a0 == 9223372036854775808) = true := beq_iff_eq.mpr c7
     have c7b1 : (a0 != 9223372036854775808) = false := bne_eq_false_iff_eq.mpr c7
     clear c7
     obtain rfl := Option.some.inj H
     go_wp2
     go_ret
     exact ⟨by first | rfl | (simp; done) | (simp [*]; done), by repeat (first | exact Drawn0.refl _ | apply Drawn0.step)⟩
    ·
     rw [if_neg c7] at H
     have c7b0 : (a0 == 9223372036854775808) = false := beq_eq_false_iff_ne.mpr c7
     have c7b1 : (a0 != 9223372036854775808) = true := bne_iff_ne.mpr c7
     by_cases c8 : a0 > 0
     ·
      rw [if_pos c8] at H
      have c8b0 : decide (0 < a0) = true := decide_eq_true c8
      clear c8
      obtain rfl := Option.some.inj H
      go_wp2
      go_ret
      exact ⟨by first | rfl | (simp; done) | (simp [*]; done), by repeat (first | exact Drawn0.refl _ | apply Drawn0.step)⟩
     ·
      rw [if_neg c8] at H
      have c8b0 : decide (0 < a0) = false := decide_eq_false c8
      clear c8
      by_cases c9 : a1 = true
      ·
       subst c9
       rw [if_pos rfl] at H
       obtain rfl := Option.some.inj H
       go_wp2
       go_ret
       exact ⟨by first | rfl | (simp; done) | (simp [*]; done), by repeat (first | exact Drawn0.refl _ | apply Drawn0.step)⟩
      ·
       replace c9 := Bool.eq_false_iff.mpr c9
       subst c9
       rw [if_neg (show ¬ (false = true) by decide)] at H
       obtain rfl := Option.some.inj H
       go_wp2
       go_ret
       exact ⟨by first | rfl | (simp; done) | (simp [*]; done), by repeat (first | exact Drawn0.refl _ | apply Drawn0.step)⟩
end Go.Proofs.Ytjlaijaadclghaa.F
