/- Functions of the given program as plain Lean functions, and for each a proof that the program's call comes to just these answers; no further conditions. (Written by a program of this repo out of the translation.) -/
import Derived.Test.YtogldofffdiflaaF0a
import Derived.Test.YtogldofffdiflaaF2a
namespace Go.Proofs.Ytogldofffdiflaa.F
open Go.RowKit Go.Proofs.YtogldofffdiflaaW.PrintWords Go.Proofs.YtogldofffdiflaaW.PrintLast Go.Proofs.YtogldofffdiflaaW.PrintMore
attribute [local go_sem high] xor_u64 xor_u32 eqErr25 neErr25 eqErrL25 neErrL25
attribute [local go_sem] max2_int min2_int max_two min_two max_three min_three max_four min_four   -- for this text's walks alone
set_option linter.unusedVariables false
set_option linter.unusedSimpArgs false
def lead_Run.j0 : Nat → Int → Int → Bool → Option (Bool × Int × Option Int)
 | 0, _, _, _ => none
 | k + 1, x0, x1, x13 => if x13 = true then (some (false, 0, some 1)) else (if 0 ≤ (wrap64 (64 - x1)) then (if ((shl .u64 x0 (wrap64 (64 - x1))) / 9223372036854775808) = 1 then ((bits_LeadingZeros64.f k (Go.bits .xor .u64 18446744073709551615 (shl .u64 x0 (wrap64 (64 - x1))))).bind fun t102 => (some ((((shl .u64 x0 (wrap64 (64 - x1))) / 9223372036854775808) == 1), mn t102 x1, none))) else ((bits_LeadingZeros64.f k (shl .u64 x0 (wrap64 (64 - x1)))).bind fun t103 => (some ((((shl .u64 x0 (wrap64 (64 - x1))) / 9223372036854775808) == 1), mn t103 x1, none)))) else (none))
def lead_Run.f (k : Nat) (a0 : Int) (a1 : Int) : Option (Bool × Int × Option Int) := if a1 < 1 then (lead_Run.j0 k a0 a1 true) else (lead_Run.j0 k a0 a1 (decide (a1 > 64)))
set_option maxHeartbeats 8000000 in
set_option maxRecDepth 100000 in
theorem lead_Run.calls (k : Nat) (a0 : Int) (a1 : Int) (r1 : Bool) (r2 : Int) (r3 : Option Int) (w : World) (h : lead_Run.f k a0 a1 = some (r1, r2, r3)) :
  Calls Try.prog 13 #[.int .u64 a0, .int .i64 a1] w fun e w' => e = .returned (.tuple #[.bool r1, .int .i64 r2, errW r3]) ∧ Below w.heap.size w w' := by
 have hu25 := Try.underlying25
 have hu45 := Try.underlying45
 have HB := Aside0.mk (Below.refl w.heap.size w)
 have H : (if a1 < 1 then (lead_Run.j0 k a0 a1 true) else (lead_Run.j0 k a0 a1 (decide (a1 > 64)))) = some (r1, r2, r3) := h
 clear h
 have HC3 := Aside0.mk H
 clear H
 go_enter Try.func13, Try.ntmps13
 go_upto_region 1 with (fail)
 go_cut [13] (fun v13 wc => ∃ (kq : Nat) (x13_2 : Bool), v13 = .bool x13_2 ∧ Aside0 (lead_Run.j0 kq a0 a1 x13_2 = some (r1, r2, r3)) ∧ Aside0 (kq ≤ k) ∧ Aside0 (Below w.heap.size w wc))
 case first =>
  have H := HC3.out
  clear HC3
  by_cases c4 : a1 < 1
  ·
   rw [if_pos c4] at H
   have c4b0 : decide (a1 < 1) = true := decide_eq_true c4
   clear c4
   (first | rw [c4b0] | (simp only [i64_w, i32_w]; rw [c4b0]) | skip)
   have H' := Aside0.mk H
   clear H
   go_wp2
   go_meet
   case rel => exact ⟨_, (true), (by first | rfl | (simp; done) | (simp [*]; done)), H', ⟨by first | omega | exact Nat.le_refl _⟩, ⟨bR3 HB.out⟩⟩
  ·
   rw [if_neg c4] at H
   have c4b0 : decide (a1 < 1) = false := decide_eq_false c4
   clear c4
   (first | rw [c4b0] | (simp only [i64_w, i32_w]; rw [c4b0]) | skip)
   have H' := Aside0.mk H
   clear H
   go_wp2
   go_meet
   case rel => exact ⟨_, (decide (a1 > 64)), (by first | rfl | (simp; done) | (simp [*]; done)), H', ⟨by first | omega | exact Nat.le_refl _⟩, ⟨bR3 HB.out⟩⟩
 case rest =>
  clear HC3
  try clear c1
  try clear p2
  try clear c4
  try clear c4b0
  obtain ⟨kq, x13_2, rfl, HA, HJ2, HB⟩ := hcut
  cases kq with
  | zero => exact absurd HA.out (by simp [lead_Run.j0])
  | succ kj2 =>
   have H := HA.out
   clear HA
   simp only [lead_Run.j0] at H
   by_cases c5 : x13_2 = true
   ·
    subst c5
    rw [if_pos rfl] at H
    simp only [Option.some.injEq, Prod.mk.injEq] at H
    obtain ⟨rfl, rfl, rfl⟩ := H
    go_wp2
    go_ret3
    exact ⟨eR3, bR3 HB.out⟩
   ·
    replace c5 := Bool.eq_false_iff.mpr c5
    subst c5
    rw [if_neg (show ¬ (false = true) by decide)] at H
    obtain ⟨ji6, hji6⟩ : ∃ j_ : Int, (wrap64 (64 - a1)) = j_ := ⟨_, rfl⟩
    replace H : (if 0 ≤ (ji6) then (if ((shl .u64 a0 (ji6)) / 9223372036854775808) = 1 then ((bits_LeadingZeros64.f kj2 (Go.bits .xor .u64 18446744073709551615 (shl .u64 a0 (ji6)))).bind fun t102 => (some ((((shl .u64 a0 (ji6)) / 9223372036854775808) == 1), mn t102 a1, none))) else ((bits_LeadingZeros64.f kj2 (shl .u64 a0 (ji6))).bind fun t103 => (some ((((shl .u64 a0 (ji6)) / 9223372036854775808) == 1), mn t103 a1, none)))) else (none)) = some (r1, r2, r3) := by first | (rw [hji6] at H; exact H) | (simp only [hji6] at H ⊢; exact H)
    have hji6w : (IntKind.i64.wrap (64 - a1)) = ji6 := (i64_w _).trans hji6
    by_cases c7 : 0 ≤ (ji6)
    ·
     rw [if_pos c7] at H
     have c7b0 := eq_true c7
     have c7b1 : decide (0 ≤ (ji6)) = true := decide_eq_true c7
     clear c7
     obtain ⟨ji8, hji8⟩ : ∃ j_ : Int, (shl .u64 a0 (ji6)) = j_ := ⟨_, rfl⟩
     replace H : (if ((ji8) / 9223372036854775808) = 1 then ((bits_LeadingZeros64.f kj2 (Go.bits .xor .u64 18446744073709551615 (ji8))).bind fun t102 => (some ((((ji8) / 9223372036854775808) == 1), mn t102 a1, none))) else ((bits_LeadingZeros64.f kj2 (ji8)).bind fun t103 => (some ((((ji8) / 9223372036854775808) == 1), mn t103 a1, none)))) = some (r1, r2, r3) := by first | (rw [hji8] at H; exact H) | (simp only [hji8] at H ⊢; exact H)
     have hji8_ : (IntKind.u64.wrap (a0 * 2 ^ min (ji6).toNat 64)) = ji8 := hji8
     have hji8z : (ji6) ≤ 64 → (IntKind.u64.wrap (a0 * 2 ^ (ji6).toNat)) = ji8 := shl_small hji8
     by_cases c9 : ((ji8) / 9223372036854775808) = 1
     ·
      rw [if_pos c9] at H
      have c9b0 : (((ji8) / 9223372036854775808) == 1) = true := beq_iff_eq.mpr c9
      have c9b1 : (((ji8) / 9223372036854775808) != 1) = false := bne_eq_false_iff_eq.mpr c9
      clear c9
      replace H := Option.bind_eq_some_iff.mp H
      obtain ⟨t102, A100, H⟩ := H
      try dsimp -simprocs only at H
      have A10 := Aside0.mk A100
      clear A100
      obtain ⟨ji11, hji11⟩ : ∃ j_ : Int, (mn t102 a1) = j_ := ⟨_, rfl⟩
      replace H : (some ((((ji8) / 9223372036854775808) == 1), ji11, none)) = some (r1, r2, r3) := by first | (rw [hji11] at H; exact H) | (simp only [hji11] at H ⊢; exact H)
      (try rw [hji11] at A10)
      have hji11_ : (if a1 < t102 then a1 else t102) = ji11 := hji11
      simp only [Option.some.injEq, Prod.mk.injEq] at H
      obtain ⟨rfl, rfl, rfl⟩ := H
      go_wp2_with (first | ((with_reducible refine gX_ 21 27 rfl rfl ?_); refine goesL_ (some 27) rfl rfl Try.func21 (by kernel_rfl) rfl #[.int .u64 (Go.bits .xor .u64 18446744073709551615 (ji8))] rfl (by (try simp only [List.map_toArray, List.map_cons, List.map_nil]); first | done | (simp only [hji8]; rfl) | rfl | (simp only [List.length_drop, List.length_take]; rfl)) ?_; (with_reducible refine (bits_LeadingZeros64.calls kj2 (Go.bits .xor .u64 18446744073709551615 (ji8)) t102 _ A10.out).mono ?_); rintro e w' ⟨rfl, ⟨nd, rfl⟩⟩; refine ⟨_, rfl, ?_⟩))
      go_ret3
      exact ⟨by first | rfl | (simp [errW_none, errW_some] <;> rfl) | (simp only [← hji6, ← hji8, ← hji11]; first | rfl | (simp [errW_none, errW_some] <;> rfl)) | (simp [*, errW_none, errW_some] <;> rfl), bR3 HB.out⟩
     ·
      rw [if_neg c9] at H
      have c9b0 : (((ji8) / 9223372036854775808) == 1) = false := beq_eq_false_iff_ne.mpr c9
      have c9b1 : (((ji8) / 9223372036854775808) != 1) = true := bne_iff_ne.mpr c9
      replace H := Option.bind_eq_some_iff.mp H
      obtain ⟨t103, A120, H⟩ := H
      try dsimp -simprocs only at H
      have A12 := Aside0.mk A120
      clear A120
      obtain ⟨ji13, hji13⟩ : ∃ j_ : Int, (mn t103 a1) = j_ := ⟨_, rfl⟩
      replace H : (some ((((ji8) / 9223372036854775808) == 1), ji13, none)) = some (r1, r2, r3) := by first | (rw [hji13] at H; exact H) | (simp only [hji13] at H ⊢; exact H)
      (try rw [hji13] at A12)
      have hji13_ : (if a1 < t103 then a1 else t103) = ji13 := hji13
      simp only [Option.some.injEq, Prod.mk.injEq] at H
      obtain ⟨rfl, rfl, rfl⟩ := H
      go_wp2_with (first | ((with_reducible refine gX_ 21 27 rfl rfl ?_); refine goesL_ (some 27) rfl rfl Try.func21 (by kernel_rfl) rfl #[.int .u64 ji8] rfl (by (try simp only [List.map_toArray, List.map_cons, List.map_nil]); first | done | (simp only [hji8]; rfl) | rfl | (simp only [List.length_drop, List.length_take]; rfl)) ?_; (with_reducible refine (bits_LeadingZeros64.calls kj2 ji8 t103 _ A12.out).mono ?_); rintro e w' ⟨rfl, ⟨nd, rfl⟩⟩; refine ⟨_, rfl, ?_⟩))
      go_ret3
      exact ⟨by first | rfl | (simp [errW_none, errW_some] <;> rfl) | (simp only [← hji6, ← hji8, ← hji13]; first | rfl | (simp [errW_none, errW_some] <;> rfl)) | (simp [*, errW_none, errW_some] <;> rfl), bR3 HB.out⟩
    ·
     rw [if_neg c7] at H
     exact absurd H (by simp)
mutual
def lead_Show.j0 : Nat → Int → Int → Bool → Option (ByteArray × Option Int)
 | 0, _, _, _ => none
 | k + 1, x0, x1, x13 => if x13 = true then (some ((⟨#[]⟩ : ByteArray), some 1)) else (if 0 ≤ x1 then (if (x1 : Int).toNat ≤ 281474976710656 then ((some (List.replicate (x1 : Int).toNat 0 : List Int)).bind fun y104 => (lead_Show.l0 k x0 x1 y104 (y104.length : Int) 0)) else (none)) else (none))
def lead_Show.l0 : Nat → Int → Int → List Int → Int → Int → Option (ByteArray × Option Int)
 | 0, _, _, _, _, _ => none
 | k + 1, x0, x1, x6, x18, x19 => if x19 < x18 then (if 0 ≤ x19 then (if 0 ≤ (wrap64 ((wrap64 (x1 - 1)) - x19)) then (if (wrap64 ((wrap64 (x1 - 1)) - x19)) < (x6.length : Int) then (lead_Show.l0 k x0 x1 (x6.set ((wrap64 ((wrap64 (x1 - 1)) - x19)) : Int).toNat ((48 + (Go.bits .and .u64 (shr .u64 x0 x19) 1)) % 256)) x18 (wrap64 (x19 + 1))) else (none)) else (none)) else (none)) else (some (strOfNums x6, none))
end
def lead_Show.f (k : Nat) (a0 : Int) (a1 : Int) : Option (ByteArray × Option Int) := if a1 < 0 then (lead_Show.j0 k a0 a1 true) else (lead_Show.j0 k a0 a1 (decide (a1 > 64)))
set_option maxHeartbeats 8000000 in
set_option maxRecDepth 100000 in
theorem lead_Show.calls (k : Nat) (a0 : Int) (a1 : Int) (r1 : ByteArray) (r2 : Option Int) (w : World) (h : lead_Show.f k a0 a1 = some (r1, r2)) :
  Calls Try.prog 14 #[.int .u64 a0, .int .i64 a1] w fun e w' => e = .returned (.tuple #[.string r1, errW r2]) ∧ Below w.heap.size w w' := by
 have hu25 := Try.underlying25
 have hu45 := Try.underlying45
 have HB := Aside0.mk (Below.refl w.heap.size w)
 have H : (if a1 < 0 then (lead_Show.j0 k a0 a1 true) else (lead_Show.j0 k a0 a1 (decide (a1 > 64)))) = some (r1, r2) := h
 clear h
 have HC3 := Aside0.mk H
 clear H
 go_enter Try.func14, Try.ntmps14
 go_upto_region 1 with (fail)
 go_cut [13] (fun v13 wc => ∃ (kq : Nat) (x13_2 : Bool), v13 = .bool x13_2 ∧ Aside0 (lead_Show.j0 kq a0 a1 x13_2 = some (r1, r2)) ∧ Aside0 (kq ≤ k) ∧ Aside0 (Below w.heap.size w wc))
 case first =>
  have H := HC3.out
  clear HC3
  by_cases c4 : a1 < 0
  ·
   rw [if_pos c4] at H
   have c4b0 : decide (a1 < 0) = true := decide_eq_true c4
   clear c4
   (first | rw [c4b0] | (simp only [i64_w, i32_w]; rw [c4b0]) | skip)
   have H' := Aside0.mk H
   clear H
   go_wp2
   go_meet
   case rel => exact ⟨_, (true), (by first | rfl | (simp; done) | (simp [*]; done)), H', ⟨by first | omega | exact Nat.le_refl _⟩, ⟨bR3 HB.out⟩⟩
  ·
   rw [if_neg c4] at H
   have c4b0 : decide (a1 < 0) = false := decide_eq_false c4
   clear c4
   (first | rw [c4b0] | (simp only [i64_w, i32_w]; rw [c4b0]) | skip)
   have H' := Aside0.mk H
   clear H
   go_wp2
   go_meet
   case rel => exact ⟨_, (decide (a1 > 64)), (by first | rfl | (simp; done) | (simp [*]; done)), H', ⟨by first | omega | exact Nat.le_refl _⟩, ⟨bR3 HB.out⟩⟩
 case rest =>
  clear HC3
  try clear c1
  try clear p2
  try clear c4
  try clear c4b0
  obtain ⟨kq, x13_2, rfl, HA, HJ2, HB⟩ := hcut
  cases kq with
  | zero => exact absurd HA.out (by simp [lead_Show.j0])
  | succ kj2 =>
   have H := HA.out
   clear HA
   simp only [lead_Show.j0] at H
   by_cases c5 : x13_2 = true
   ·
    subst c5
    rw [if_pos rfl] at H
    simp only [Option.some.injEq, Prod.mk.injEq] at H
    obtain ⟨rfl, rfl⟩ := H
    go_wp2
    go_ret2
    exact ⟨eR3, bR3 HB.out⟩
   ·
    replace c5 := Bool.eq_false_iff.mpr c5
    subst c5
    rw [if_neg (show ¬ (false = true) by decide)] at H
    by_cases c6 : 0 ≤ a1
    ·
     rw [if_pos c6] at H
     have c6b0 := eq_true c6
     have c6b1 : decide (0 ≤ a1) = true := decide_eq_true c6
     clear c6
     by_cases c7 : (a1 : Int).toNat ≤ 281474976710656
     ·
      rw [if_pos c7] at H
      have c7b0 := eq_true c7
      have c7b1 : decide ((a1 : Int).toNat ≤ 281474976710656) = true := decide_eq_true c7
      clear c7
      obtain ⟨y104, hy104⟩ : ∃ y_ : List Int, y_ = (List.replicate (a1 : Int).toNat 0) := ⟨_, rfl⟩
      replace H : (lead_Show.l0 kj2 a0 a1 y104 (y104.length : Int) 0) = some (r1, r2) := by first | (rw [hy104]; with_reducible exact H) | (have H2_ := (Option.bind_some _ _).symm.trans H; rw [hy104]; with_reducible exact H2_) | (have H2_ := (Option.bind_some _ _).symm.trans H; with_reducible exact H2_) | with_reducible exact H | (rw [hy104]; exact H) | exact H
      have Ny104 := Aside0.mk hy104
      clear hy104
      have H' := Aside0.mk H
      clear H
      go_wp2_with (first | ((with_reducible refine gD (N := 16) rfl ?_); refine Kd.R_make (Kd.int .u8) _ 5 rfl (N := 16) rfl 46 _ _ rfl a1 rfl rfl Try.underlying46 (.int .u8 0) 1 info5 rfl (by decide) (by omega) 0 (ok := fun _ => True) (okp := fun _ => True) rfl (fun _ hk => hk) trivial (of_decide_eq_true (by first | (with_reducible assumption) | assumption)) (Nat.le_trans (Nat.mul_le_mul_right _ (of_decide_eq_true (by first | (with_reducible assumption) | assumption) : a1.toNat ≤ 281474976710656)) (by omega)) (Below.refl _ _) (Nat.le_refl _) ?_; intro v105 w8 ho9 hb hg_ hnew_; clear hg_ hnew_; (first | rw [← Ny104.out] at ho9 | (simp only [Int.reduceToNat] at ho9; rw [← Ny104.out] at ho9)); have HO106 := Aside0.mk (Kd.R_lower ho9 (bZ (bR3 HB.out))); replace HB := Aside0.mk (bS3 HB.out hb); clear hb ho9; obtain ⟨Ao10, co10, eo10⟩ := Kd.R_slice HO106.out; subst eo10))
      go_loopg [19] kj2 (fun kq v19 w' => ∃ (x6_2 : List Int) (x19_2 : Int), v19 = .int .i64 x19_2 ∧ Aside0 (lead_Show.l0 kq a0 a1 x6_2 (y104.length : Int) x19_2 = some (r1, r2)) ∧ Aside0 (kq ≤ kj2) ∧ Aside0 (Kd.R (Kd.int .u8) 5 w' w.heap.size (fun _ => True) (.slice Ao10 y104.length co10) x6_2) ∧ Aside0 (Below w.heap.size w w'))
      case atStart => exact ⟨(y104), (0), (by first | rfl | (simp; done) | (simp [*]; done)), H', ⟨Nat.le_refl _⟩, ⟨by (with_reducible repeat (first | apply Kd.R_alloc | apply Kd.R_drewN | apply Kd.R_drew)); exact HO106.out⟩, ⟨bR3 HB.out⟩⟩
      case round =>
       clear H'
       try clear c1
       try clear p2
       try clear c4
       try clear c4b0
       try clear c5
       try clear c6
       try clear c6b0
       try clear c6b1
       try clear c7
       try clear c7b0
       try clear c7b1
       try clear p2
       obtain ⟨x6_2, x19_2, rfl, HA, HK2, HO_6, HB⟩ := hrel
       have hl6_2 := (Kd.R_reads' HO_6.out).1
       rw [hl6_2] at HO_6
       (try simp only [hl6_2])
       cases gk with
       | zero => exact absurd HA.out (by simp [lead_Show.l0])
       | succ k2 =>
        have H := HA.out
        clear HA
        simp only [lead_Show.l0] at H
        by_cases c11 : x19_2 < (y104.length : Int)
        ·
         rw [if_pos c11] at H
         have c11b0 : decide (x19_2 < (y104.length : Int)) = true := decide_eq_true c11
         (try (have c11b90 := c11b0; rw [hl6_2] at c11b90))
         clear c11
         by_cases c12 : 0 ≤ x19_2
         ·
          rw [if_pos c12] at H
          have c12b0 := eq_true c12
          have c12b1 : decide (0 ≤ x19_2) = true := decide_eq_true c12
          clear c12
          obtain ⟨ji13, hji13⟩ : ∃ j_ : Int, (shr .u64 a0 x19_2) = j_ := ⟨_, rfl⟩
          replace H : (if 0 ≤ (wrap64 ((wrap64 (a1 - 1)) - x19_2)) then (if (wrap64 ((wrap64 (a1 - 1)) - x19_2)) < (x6_2.length : Int) then (lead_Show.l0 k2 a0 a1 (x6_2.set ((wrap64 ((wrap64 (a1 - 1)) - x19_2)) : Int).toNat ((48 + (Go.bits .and .u64 (ji13) 1)) % 256)) (y104.length : Int) (wrap64 (x19_2 + 1))) else (none)) else (none)) = some (r1, r2) := by first | (rw [hji13] at H; exact H) | (simp only [hji13] at H ⊢; exact H)
          have hji13_ : (a0 / 2 ^ min x19_2.toNat 64) = ji13 := hji13
          have hji13z : x19_2 ≤ 64 → (a0 / 2 ^ x19_2.toNat) = ji13 := shr_small hji13
          obtain ⟨ji14, hji14⟩ : ∃ j_ : Int, (wrap64 ((wrap64 (a1 - 1)) - x19_2)) = j_ := ⟨_, rfl⟩
          replace H : (if 0 ≤ (ji14) then (if (ji14) < (x6_2.length : Int) then (lead_Show.l0 k2 a0 a1 (x6_2.set ((ji14) : Int).toNat ((48 + (Go.bits .and .u64 (ji13) 1)) % 256)) (y104.length : Int) (wrap64 (x19_2 + 1))) else (none)) else (none)) = some (r1, r2) := by first | (rw [hji14] at H; exact H) | (simp only [hji14] at H ⊢; exact H)
          have hji14w : (IntKind.i64.wrap ((wrap64 (a1 - 1)) - x19_2)) = ji14 := (i64_w _).trans hji14
          by_cases c15 : 0 ≤ (ji14)
          ·
           rw [if_pos c15] at H
           have c15b0 : decide (0 ≤ (ji14)) = true := decide_eq_true c15
           clear c15
           by_cases c16 : (ji14) < (x6_2.length : Int)
           ·
            rw [if_pos c16] at H
            have c16b0 : decide ((ji14) < (x6_2.length : Int)) = true := decide_eq_true c16
            clear c16
            obtain ⟨y107, hy107⟩ : ∃ y_ : List Int, y_ = (x6_2.set ((ji14) : Int).toNat ((48 + (Go.bits .and .u64 (ji13) 1)) % 256)) := ⟨_, rfl⟩
            replace H : (lead_Show.l0 k2 a0 a1 y107 (y104.length : Int) (wrap64 (x19_2 + 1))) = some (r1, r2) := by first | (rw [hy107]; with_reducible exact H) | (have H2_ := (Option.bind_some _ _).symm.trans H; rw [hy107]; with_reducible exact H2_) | (have H2_ := (Option.bind_some _ _).symm.trans H; with_reducible exact H2_) | with_reducible exact H | (rw [hy107]; exact H) | exact H
            have Ny107 := Aside0.mk hy107
            clear hy107
            have H' := Aside0.mk H
            clear H
            have p17 : 0 ≤ ((ji14) : Int) := of_decide_eq_true (by first | (with_reducible assumption) | assumption)
            have q17 : ((ji14) : Int) < ((x6_2.length : Int) : Int) := of_decide_eq_true (by first | (with_reducible assumption) | assumption)
            obtain ⟨go17, co17, eo17, gb17, gl17, cl17, HG17⟩ := Kd.R_form HO_6.out (by omega)
            (first | cases eo17 | (injection eo17 with ea_ en_ ec_; (first | subst ea_ | (injection ea_ with ea_; subst ea_)); subst ec_; clear en_))
            have GB17 := Aside0.mk gb17
            have GG17 := Aside0.mk HG17
            clear gb17 gl17 HG17
            obtain ⟨hx17_0, hf17_0⟩ := Kd.R_celln 0 HO_6.out ((ji14) : Int) p17 q17
            replace p17 := eq_true p17
            replace q17 := eq_true q17
            have HP18 := Kd.R_putg HO_6.out ((ji14) : Int) ((48 + (Go.bits .and .u64 (ji13) 1)) % 256)
            go_wp2_with (first | ((with_reducible refine gate_store (t := 5) (p := 33) rfl ?_); refine store_event (t := 5) (p := 33) (v := ?vo_w19) (w1 := (wr.setCell ⟨go17, ((ji14) : Int).toNat, none⟩ (.int .u8 ((48 + (Go.bits .and .u64 (ji13) 1)) % 256)))) ?hg ?ho ?hn ?hr ?_; (case ho => rfl); (case hg => rfl); (case hn => rfl); (case hr => first | (go_simp; done) | (go_simp; rfl)); intro w19 hw; have hg : wr.grownBy w19 (some go17) := (by rw [hw]; exact HP18.2); have hp_ : Kd.R (Kd.int .u8) 5 w19 w.heap.size (fun _ => True) (.slice (some ⟨go17, 0, none⟩) x6_2.length co10) y107 := (by rw [hw, Ny107.out]; exact HP18.1); clear HP18; replace HO_6 := Aside0.mk (hp_); replace HB := Aside0.mk ((by rw [hw]; exact pS (HB.out) GB17.out : Below w.heap.size w w19)); clear hg hw hp_))
            (try simp only [← hl6_2])
            go_roundg k2
            case measure => have := HJ2.out; have := HK2.out; omega
            case rel => exact ⟨(y107), (wrap64 (x19_2 + 1)), (by first | rfl | (simp; done) | (simp [*]; done)), H', ⟨by have := HJ2.out; have := HK2.out; omega⟩, ⟨by (try simp only [hl6_2]); (with_reducible repeat (first | apply Kd.R_alloc | apply Kd.R_drewN | apply Kd.R_drew)); exact HO_6.out⟩, ⟨bR3 HB.out⟩⟩
           ·
            rw [if_neg c16] at H
            exact absurd H (by simp)
          ·
           rw [if_neg c15] at H
           exact absurd H (by simp)
         ·
          rw [if_neg c12] at H
          exact absurd H (by simp)
        ·
         rw [if_neg c11] at H
         have c11b0 : decide (x19_2 < (y104.length : Int)) = false := decide_eq_false c11
         (try (have c11b90 := c11b0; rw [hl6_2] at c11b90))
         clear c11
         simp only [Option.some.injEq, Prod.mk.injEq] at H
         obtain ⟨rfl, rfl⟩ := H
         have hcv20 := own_string (P := Try.prog) Try.underlying46 Try.underlying5 Try.underlying9 (Kd.own_of_R HO_6.out)
         go_wp2
         go_ret2
         exact ⟨eR3, bR3 HB.out⟩
     ·
      rw [if_neg c7] at H
      exact absurd H (by simp)
    ·
     rw [if_neg c6] at H
     exact absurd H (by simp)
def lead_Read.l0 : Nat → Int → ByteArray → Int → Int → Option (Int × Option Int)
 | 0, _, _, _, _ => none
 | k + 1, x4, x12, x13, x14 => if x14 < x13 then (if 0 ≤ x14 then (if x14 < (x12.size : Int) then (if (bt x12 x14) = 48 then (lead_Read.l0 k (Go.bits .or .u64 (IntKind.u64.wrap (x4 * 2)) (((bt x12 x14) - 48) % 256)) x12 x13 (wrap64 (x14 + 1))) else (if (bt x12 x14) = 49 then (lead_Read.l0 k (Go.bits .or .u64 (IntKind.u64.wrap (x4 * 2)) (((bt x12 x14) - 48) % 256)) x12 x13 (wrap64 (x14 + 1))) else (some (0, some 7)))) else (none)) else (none)) else (some (x4, none))
def lead_Read.f (k : Nat) (a0 : ByteArray) : Option (Int × Option Int) := if (a0.size : Int) > 64 then (some (0, some 3)) else (if 0 ≤ 281474976710656 then (lead_Read.l0 k 0 a0 (a0.size : Int) 0) else (none))
/-- '[]byte(s)': a row of its own that reads as the string, in a world that differs from the old one behind it alone. -/
theorem lead_read_bytes (a0 : ByteArray) (w : World) : ∃ (W0 : World) (ad : Addr) (cp : Nat), (convert 9 46 (.string a0)).run Try.prog w = .ok (.slice (some ad) a0.size cp) W0 ∧ (∀ i : Int, 0 ≤ i → i < (a0.size : Int) → W0.cell? (ad.add i.toNat) = some (.int .u8 (bt a0 i))) ∧ Below w.heap.size w W0 := by
 refine ⟨_, _, _, Lib.run_convert_string_bytes w 9 46 5 a0 Try.underlying9 Try.underlying46 Try.underlying5, fun i h0 h1 => ?_, ⟨rfl, rfl, rfl, by rw [Lib.bytesWorld_size]; omega, fun i hi => Lib.bytesWorld_at_old w 5 a0 i (by omega)⟩⟩
 have hj : i.toNat < a0.size := by omega
 rw [add_plain, Lib.bytesWorld_cell w 5 a0 i.toNat hj]
 unfold bt
 rw [dif_pos hj]
 have h' : i.toNat < a0.data.toList.length := by simpa using hj
 rw [List.getD_eq_getElem?_getD, List.getElem?_eq_getElem h', Option.getD_some]
 rfl
set_option maxHeartbeats 8000000 in
set_option maxRecDepth 100000 in
theorem lead_Read.calls (k : Nat) (a0 : ByteArray) (r1 : Int) (r2 : Option Int) (w : World) (h : lead_Read.f k a0 = some (r1, r2)) :
  Calls Try.prog 6 #[.string a0] w fun e w' => e = .returned (.tuple #[.int .u64 r1, errW r2]) ∧ Below w.heap.size w w' := by
 have hu25 := Try.underlying25
 have hu45 := Try.underlying45
 have HB := Aside0.mk (Below.refl w.heap.size w)
 have H : (if (a0.size : Int) > 64 then (some (0, some 3)) else (if 0 ≤ 281474976710656 then (lead_Read.l0 k 0 a0 (a0.size : Int) 0) else (none))) = some (r1, r2) := h
 clear h
 by_cases c2 : (a0.size : Int) > 64
 ·
  rw [if_pos c2] at H
  have c2b0 : decide (64 < (a0.size : Int)) = true := decide_eq_true c2
  have c2b1 : decide (64 < a0.size) = true := decide_eq_true (by omega)
  clear c2
  simp only [Option.some.injEq, Prod.mk.injEq] at H
  obtain ⟨rfl, rfl⟩ := H
  go_enter Try.func6, Try.ntmps6
  go_wp2
  go_ret2
  exact ⟨eR3, bR3 HB.out⟩
 ·
  rw [if_neg c2] at H
  have c2b0 : decide (64 < (a0.size : Int)) = false := decide_eq_false c2
  have c2b1 : decide (64 < a0.size) = false := decide_eq_false (by omega)
  clear c2
  by_cases c3 : 0 ≤ 281474976710656
  ·
   rw [if_pos c3] at H
   have c3b0 := eq_true c3
   have c3b1 : decide (0 ≤ 281474976710656) = true := decide_eq_true c3
   clear c3
   obtain ⟨y115, hy115⟩ : ∃ y_ : List Int, y_ = (List.replicate 0 0) := ⟨_, rfl⟩
   replace H : (lead_Read.l0 k 0 a0 (a0.size : Int) 0) = some (r1, r2) := by first | (rw [hy115]; with_reducible exact H) | (have H2_ := (Option.bind_some _ _).symm.trans H; rw [hy115]; with_reducible exact H2_) | (have H2_ := (Option.bind_some _ _).symm.trans H; with_reducible exact H2_) | with_reducible exact H | (rw [hy115]; exact H) | exact H
   have Ny115 := Aside0.mk hy115
   clear hy115
   have H' := Aside0.mk H
   clear H
   go_enter Try.func6, Try.ntmps6
   obtain ⟨W0, ad, cp, hcv, hcell, hbe⟩ := lead_read_bytes a0 w
   go_wp2
   go_loopg [4, 14] k (fun kq v4 v14 w' => ∃ (x4_1 : Int) (x14_1 : Int), v4 = .int .u64 x4_1 ∧ v14 = .int .i64 x14_1 ∧ Aside0 (lead_Read.l0 kq x4_1 a0 (a0.size : Int) x14_1 = some (r1, r2)) ∧ Aside0 (kq ≤ k) ∧ Drawn0 W0 w')
   case atStart => exact ⟨(0), (0), (by first | rfl | (simp; done) | (simp [*]; done)), (by first | rfl | (simp; done) | (simp [*]; done)), H', ⟨Nat.le_refl _⟩, by repeat (first | exact Drawn0.refl _ | apply Drawn0.step)⟩
   case round =>
    clear H'
    try clear c2
    try clear c2b0
    try clear c2b1
    try clear p2
    try clear c3
    try clear c3b0
    try clear c3b1
    obtain ⟨x4_1, x14_1, rfl, rfl, HA, HK1, ⟨m1, rfl⟩⟩ := hrel
    cases gk with
    | zero => exact absurd HA.out (by simp [lead_Read.l0])
    | succ k1 =>
     have H := HA.out
     clear HA
     simp only [lead_Read.l0] at H
     by_cases c6 : x14_1 < (a0.size : Int)
     ·
      rw [if_pos c6] at H
      have c6b0 : decide (x14_1 < (a0.size : Int)) = true := decide_eq_true c6
      clear c6
      by_cases c7 : 0 ≤ x14_1
      ·
       rw [if_pos c7] at H
       have c7b0 : decide (0 ≤ x14_1) = true := decide_eq_true c7
       clear c7
       by_cases c8 : x14_1 < (a0.size : Int)
       ·
        rw [if_pos c8] at H
        have c8b0 : decide (x14_1 < (a0.size : Int)) = true := decide_eq_true c8
        clear c8
        by_cases c10 : (bt a0 x14_1) = 48
        ·
         rw [if_pos c10] at H
         have c10b0 : ((bt a0 x14_1) == 48) = true := beq_iff_eq.mpr c10
         have c10b1 : ((bt a0 x14_1) != 48) = false := bne_eq_false_iff_eq.mpr c10
         clear c10
         have H' := Aside0.mk H
         clear H
         have p9 : 0 ≤ (x14_1 : Int) := of_decide_eq_true (by first | (with_reducible assumption) | assumption)
         have q9 : x14_1 < (a0.size : Int) := of_decide_eq_true (by first | (with_reducible assumption) | assumption)
         have hx9 := hcell x14_1 p9 q9
         replace p9 := eq_true p9
         replace q9 := eq_true q9
         go_wp2
         go_roundg k1
         case measure => have := HK1.out; omega
         case rel => exact ⟨(Go.bits .or .u64 (IntKind.u64.wrap (x4_1 * 2)) (((bt a0 x14_1) - 48) % 256)), (wrap64 (x14_1 + 1)), (by first | rfl | (simp; done) | (simp [*]; done)), (by first | rfl | (simp; done) | (simp [*]; done)), H', ⟨by have := HK1.out; omega⟩, by repeat (first | exact Drawn0.refl _ | apply Drawn0.step)⟩
        ·
         rw [if_neg c10] at H
         have c10b0 : ((bt a0 x14_1) == 48) = false := beq_eq_false_iff_ne.mpr c10
         have c10b1 : ((bt a0 x14_1) != 48) = true := bne_iff_ne.mpr c10
         by_cases c11 : (bt a0 x14_1) = 49
         ·
          rw [if_pos c11] at H
          have c11b0 : ((bt a0 x14_1) == 49) = true := beq_iff_eq.mpr c11
          have c11b1 : ((bt a0 x14_1) != 49) = false := bne_eq_false_iff_eq.mpr c11
          clear c11
          have H' := Aside0.mk H
          clear H
          have p9 : 0 ≤ (x14_1 : Int) := of_decide_eq_true (by first | (with_reducible assumption) | assumption)
          have q9 : x14_1 < (a0.size : Int) := of_decide_eq_true (by first | (with_reducible assumption) | assumption)
          have hx9 := hcell x14_1 p9 q9
          replace p9 := eq_true p9
          replace q9 := eq_true q9
          go_wp2
          go_roundg k1
          case measure => have := HK1.out; omega
          case rel => exact ⟨(Go.bits .or .u64 (IntKind.u64.wrap (x4_1 * 2)) (((bt a0 x14_1) - 48) % 256)), (wrap64 (x14_1 + 1)), (by first | rfl | (simp; done) | (simp [*]; done)), (by first | rfl | (simp; done) | (simp [*]; done)), H', ⟨by have := HK1.out; omega⟩, by repeat (first | exact Drawn0.refl _ | apply Drawn0.step)⟩
         ·
          rw [if_neg c11] at H
          have c11b0 : ((bt a0 x14_1) == 49) = false := beq_eq_false_iff_ne.mpr c11
          have c11b1 : ((bt a0 x14_1) != 49) = true := bne_iff_ne.mpr c11
          simp only [Option.some.injEq, Prod.mk.injEq] at H
          obtain ⟨rfl, rfl⟩ := H
          have p9 : 0 ≤ (x14_1 : Int) := of_decide_eq_true (by first | (with_reducible assumption) | assumption)
          have q9 : x14_1 < (a0.size : Int) := of_decide_eq_true (by first | (with_reducible assumption) | assumption)
          have hx9 := hcell x14_1 p9 q9
          replace p9 := eq_true p9
          replace q9 := eq_true q9
          go_wp2
          go_ret2
          exact ⟨eR3, bR3 hbe⟩
       ·
        rw [if_neg c8] at H
        exact absurd H (by simp)
      ·
       rw [if_neg c7] at H
       exact absurd H (by simp)
     ·
      rw [if_neg c6] at H
      have c6b0 : decide (x14_1 < (a0.size : Int)) = false := decide_eq_false c6
      clear c6
      simp only [Option.some.injEq, Prod.mk.injEq] at H
      obtain ⟨rfl, rfl⟩ := H
      go_wp2
      go_ret2
      exact ⟨eR3, bR3 hbe⟩
  ·
   rw [if_neg c3] at H
   exact absurd H (by simp)
end Go.Proofs.Ytogldofffdiflaa.F
