/- Printed functions and their walks; no further conditions. -/
import Derived.Test.YtjlaijaadclghaaF0Q
import Derived.Test.YtjlaijaadclghaaF5Q
namespace Go.Proofs.Ytjlaijaadclghaa.F
open RowKit YtjlaijaadclghaaW PrintWords PrintLast PrintMore
attribute [local go_sem high] xor_u64 xor_u32
attribute [local go_sem] max2_int min2_int max_two min_two max_three min_three max_four min_four
set_option linter.all false
def lead_ones.f (a0 : Int) : Option (Int) := if a0 = 64 then (some 18446744073709551615) else (if 0 ≤ a0 then (some (IntKind.u64.wrap ((shl .u64 1 a0) - 1))) else (none))
set_option maxHeartbeats 8000000 in
set_option maxRecDepth 100000 in
theorem lead_ones.calls (a0 : Int) (r : Int) (w : World) (h : lead_ones.f a0 = some r) :
  Calls Try.prog 77 #[.int .i64 a0] w fun e w' => e = .returned (.int .u64 r) ∧ Drawn0 w w' := by
 have H : (if a0 = 64 then (some 18446744073709551615) else (if 0 ≤ a0 then (some (IntKind.u64.wrap ((shl .u64 1 a0) - 1))) else (none))) = some r := h
 clear h
 by_cases c2 : a0 = 64
 ·
  rw [if_pos c2] at H
  have c2b0 : (a0 == 64) = true := beq_iff_eq.mpr c2
  have c2b1 : (a0 != 64) = false := bne_eq_false_iff_eq.mpr c2
  clear c2
  obtain rfl := Option.some.inj H
  go_enter Try.func77, Try.ntmps77
  go_wp2
  go_ret
  exact ⟨by first | rfl | (simp; done) | (simp [*]; done), by repeat (first | exact Drawn0.refl _ | apply Drawn0.step)⟩
 ·
  rw [if_neg c2] at H
  have c2b0 : (a0 == 64) = false := beq_eq_false_iff_ne.mpr c2
  have c2b1 : (a0 != 64) = true := bne_iff_ne.mpr c2
  by_cases c3 : 0 ≤ a0
  ·
   rw [if_pos c3] at H
   have c3b0 := eq_true c3
   have c3b1 : decide (0 ≤ a0) = true := decide_eq_true c3
   clear c3
   obtain ⟨ji4, hji4⟩ : ∃ j_ : Int, (shl .u64 1 a0) = j_ := ⟨_, rfl⟩
   replace H : (some (IntKind.u64.wrap ((ji4) - 1))) = some r := by first | (rw [hji4] at H; exact H) | (simp only [hji4] at H ⊢; exact H)
   have hji4_ : (IntKind.u64.wrap (1 * 2 ^ min a0.toNat 64)) = ji4 := hji4
   have hji4z : a0 ≤ 64 → (IntKind.u64.wrap (1 * 2 ^ a0.toNat)) = ji4 := shl_small hji4
   have hji4u : (IntKind.u64.wrap (2 ^ min a0.toNat 64)) = ji4 := by have h_ := hji4_; rw [Int.one_mul] at h_; exact h_
   have hji4v : a0 ≤ 64 → (IntKind.u64.wrap (2 ^ a0.toNat)) = ji4 := fun hle_ => by have h_ := hji4z hle_; rw [Int.one_mul] at h_; exact h_
   obtain rfl := Option.some.inj H
   go_enter Try.func77, Try.ntmps77
   go_wp2
   go_ret
   exact ⟨by first | rfl | (simp; done) | (simp only [← hji4] <;> (first | rfl | simp)) | (simp [*]; done), by repeat (first | exact Drawn0.refl _ | apply Drawn0.step)⟩
  ·
   rw [if_neg c3] at H
   exact absurd H (by simp)
def lead_Mask.f (a0 : Int) : Option (Int × Option Int) := if a0 < 0 then (some (0, some 1)) else (if a0 > 64 then (some (0, some 1)) else ((lead_ones.f a0).bind fun t101 => (some (t101, none))))
set_option maxHeartbeats 8000000 in
set_option maxRecDepth 100000 in
theorem lead_Mask.calls (a0 : Int) (r1 : Int) (r2 : Option Int) (w : World) (h : lead_Mask.f a0 = some (r1, r2)) :
  Calls Try.prog 74 #[.int .i64 a0] w fun e w' => e = .returned (.tuple #[.int .u64 r1, errW r2]) ∧ Drawn0 w w' := by
 have hu25 := Try.underlying25
 have hu29 := Try.underlying29
 have H : (if a0 < 0 then (some (0, some 1)) else (if a0 > 64 then (some (0, some 1)) else ((lead_ones.f a0).bind fun t101 => (some (t101, none))))) = some (r1, r2) := h
 clear h
 by_cases c2 : a0 < 0
 ·
  rw [if_pos c2] at H
  have c2b0 : decide (a0 < 0) = true := decide_eq_true c2
  clear c2
  simp only [Option.some.injEq, Prod.mk.injEq] at H
  obtain ⟨rfl, rfl⟩ := H
  go_enter Try.func74, Try.ntmps74
  go_wp2
  go_ret2
  exact ⟨by first | rfl | (simp; done) | (simp [*]; done), by repeat (first | exact Drawn0.refl _ | apply Drawn0.step)⟩
 ·
  rw [if_neg c2] at H
  have c2b0 : decide (a0 < 0) = false := decide_eq_false c2
  clear c2
  by_cases c3 : a0 > 64
  ·
   rw [if_pos c3] at H
   have c3b0 : decide (64 < a0) = true := decide_eq_true c3
   clear c3
   simp only [Option.some.injEq, Prod.mk.injEq] at H
   obtain ⟨rfl, rfl⟩ := H
   go_enter Try.func74, Try.ntmps74
   go_wp2
   go_ret2
   exact ⟨by first | rfl | (simp; done) | (simp [*]; done), by repeat (first | exact Drawn0.refl _ | apply Drawn0.step)⟩
  ·
   rw [if_neg c3] at H
   have c3b0 : decide (64 < a0) = false := decide_eq_false c3
   clear c3
   replace H := Option.bind_eq_some_iff.mp H
   obtain ⟨t101, A40, H⟩ := H
   try dsimp -simprocs only at H
   have A4 := Aside0.mk A40
   clear A40
   simp only [Option.some.injEq, Prod.mk.injEq] at H
   obtain ⟨rfl, rfl⟩ := H
   go_enter Try.func74, Try.ntmps74
   go_wp2_with (first | ((with_reducible refine gX_ 77 12 rfl rfl ?_); refine goesY_ (some 12) Try.func77 #[.int .i64 a0] ?_; (with_reducible refine (lead_ones.calls a0 t101 _ A4.out).mono ?_); rintro e w' ⟨rfl, ⟨nd, rfl⟩⟩; refine ⟨_, rfl, ?_⟩))
   go_ret2
   exact ⟨by first | rfl | (simp; done) | (simp [*]; done), by repeat (first | exact Drawn0.refl _ | apply Drawn0.step)⟩
def lead_Extend.f (a0 : Int) (a1 : Int) : Option (Int × Option Int) := if a1 < 1 then (some (0, some 1)) else (if a1 > 64 then (some (0, some 1)) else (if 0 ≤ (wrap64 (64 - a1)) then (some (shr .i64 (wrap64 (shl .u64 a0 (wrap64 (64 - a1)))) (wrap64 (64 - a1)), none)) else (none)))
set_option maxHeartbeats 8000000 in
set_option maxRecDepth 100000 in
theorem lead_Extend.calls (a0 : Int) (a1 : Int) (r1 : Int) (r2 : Option Int) (w : World) (h : lead_Extend.f a0 a1 = some (r1, r2)) :
  Calls Try.prog 75 #[.int .u64 a0, .int .i64 a1] w fun e w' => e = .returned (.tuple #[.int .i64 r1, errW r2]) ∧ Drawn0 w w' := by
 have hu25 := Try.underlying25
 have hu29 := Try.underlying29
 have H : (if a1 < 1 then (some (0, some 1)) else (if a1 > 64 then (some (0, some 1)) else (if 0 ≤ (wrap64 (64 - a1)) then (some (shr .i64 (wrap64 (shl .u64 a0 (wrap64 (64 - a1)))) (wrap64 (64 - a1)), none)) else (none)))) = some (r1, r2) := h
 clear h
 by_cases c3 : a1 < 1
 ·
  rw [if_pos c3] at H
  have c3b0 : decide (a1 < 1) = true := decide_eq_true c3
  clear c3
  simp only [Option.some.injEq, Prod.mk.injEq] at H
  obtain ⟨rfl, rfl⟩ := H
  go_enter Try.func75, Try.ntmps75
  go_wp2
  go_ret2
  exact ⟨by first | rfl | (simp; done) | (simp [*]; done), by repeat (first | exact Drawn0.refl _ | apply Drawn0.step)⟩
 ·
  rw [if_neg c3] at H
  have c3b0 : decide (a1 < 1) = false := decide_eq_false c3
  clear c3
  by_cases c4 : a1 > 64
  ·
   rw [if_pos c4] at H
   have c4b0 : decide (64 < a1) = true := decide_eq_true c4
   clear c4
   simp only [Option.some.injEq, Prod.mk.injEq] at H
   obtain ⟨rfl, rfl⟩ := H
   go_enter Try.func75, Try.ntmps75
   go_wp2
   go_ret2
   exact ⟨by first | rfl | (simp; done) | (simp [*]; done), by repeat (first | exact Drawn0.refl _ | apply Drawn0.step)⟩
  ·
   rw [if_neg c4] at H
   have c4b0 : decide (64 < a1) = false := decide_eq_false c4
   clear c4
   obtain ⟨ji5, hji5⟩ : ∃ j_ : Int, (wrap64 (64 - a1)) = j_ := ⟨_, rfl⟩
   replace H : (if 0 ≤ (ji5) then (some (shr .i64 (wrap64 (shl .u64 a0 (ji5))) (ji5), none)) else (none)) = some (r1, r2) := by first | (rw [hji5] at H; exact H) | (simp only [hji5] at H ⊢; exact H)
   have hji5w : (IntKind.i64.wrap (64 - a1)) = ji5 := (i64_w _).trans hji5
   by_cases c6 : 0 ≤ (ji5)
   ·
    rw [if_pos c6] at H
    have c6b0 := eq_true c6
    have c6b1 : decide (0 ≤ (ji5)) = true := decide_eq_true c6
    clear c6
    obtain ⟨ji7, hji7⟩ : ∃ j_ : Int, (shl .u64 a0 (ji5)) = j_ := ⟨_, rfl⟩
    replace H : (some (shr .i64 (wrap64 (ji7)) (ji5), none)) = some (r1, r2) := by first | (rw [hji7] at H; exact H) | (simp only [hji7] at H ⊢; exact H)
    have hji7_ : (IntKind.u64.wrap (a0 * 2 ^ min (ji5).toNat 64)) = ji7 := hji7
    have hji7z : (ji5) ≤ 64 → (IntKind.u64.wrap (a0 * 2 ^ (ji5).toNat)) = ji7 := shl_small hji7
    have c8b0 := eq_true (of_decide_eq_true (by first | (with_reducible assumption) | assumption) : 0 ≤ (ji5))
    obtain ⟨ji9, hji9⟩ : ∃ j_ : Int, (shr .i64 (wrap64 (ji7)) (ji5)) = j_ := ⟨_, rfl⟩
    replace H : (some (ji9, none)) = some (r1, r2) := by first | (rw [hji9] at H; exact H) | (simp only [hji9] at H ⊢; exact H)
    have hji9_ : ((wrap64 (ji7)) / 2 ^ min (ji5).toNat 64) = ji9 := hji9
    have hji9z : (ji5) ≤ 64 → ((wrap64 (ji7)) / 2 ^ (ji5).toNat) = ji9 := shr_small hji9
    simp only [Option.some.injEq, Prod.mk.injEq] at H
    obtain ⟨rfl, rfl⟩ := H
    go_enter Try.func75, Try.ntmps75
    go_wp2
    go_ret2
    exact ⟨by first | rfl | (simp; done) | (simp only [← hji5, ← hji7, ← hji9] <;> (first | rfl | simp)) | (simp [*]; done), by repeat (first | exact Drawn0.refl _ | apply Drawn0.step)⟩
   ·
    rw [if_neg c6] at H
    exact absurd H (by simp)
def lead_Run.j0 : Nat → Int → Int → Bool → Option (Bool × Int × Option Int)
 | 0, _, _, _ => none
 | k + 1, x0, x1, x13 => if x13 = true then (some (false, 0, some 1)) else (if 0 ≤ (wrap64 (64 - x1)) then (if ((shl .u64 x0 (wrap64 (64 - x1))) / 9223372036854775808) = 1 then ((bits_LeadingZeros64.f k (Go.bits .xor .u64 18446744073709551615 (shl .u64 x0 (wrap64 (64 - x1))))).bind fun t112 => (some ((((shl .u64 x0 (wrap64 (64 - x1))) / 9223372036854775808) == 1), mn t112 x1, none))) else ((bits_LeadingZeros64.f k (shl .u64 x0 (wrap64 (64 - x1)))).bind fun t113 => (some ((((shl .u64 x0 (wrap64 (64 - x1))) / 9223372036854775808) == 1), mn t113 x1, none)))) else (none))
def lead_Run.f (k : Nat) (a0 : Int) (a1 : Int) : Option (Bool × Int × Option Int) := if a1 < 1 then (lead_Run.j0 k a0 a1 true) else (lead_Run.j0 k a0 a1 (decide (a1 > 64)))
set_option maxHeartbeats 8000000 in
set_option maxRecDepth 100000 in
theorem lead_Run.calls (k : Nat) (a0 : Int) (a1 : Int) (r1 : Bool) (r2 : Int) (r3 : Option Int) (w : World) (h : lead_Run.f k a0 a1 = some (r1, r2, r3)) :
  Calls Try.prog 61 #[.int .u64 a0, .int .i64 a1] w fun e w' => e = .returned (.tuple #[.bool r1, .int .i64 r2, errW r3]) ∧ Below w.heap.size w w' := by
 have hu25 := Try.underlying25
 have hu29 := Try.underlying29
 have HB := Aside0.mk (Below.refl w.heap.size w)
 have H : (if a1 < 1 then (lead_Run.j0 k a0 a1 true) else (lead_Run.j0 k a0 a1 (decide (a1 > 64)))) = some (r1, r2, r3) := h
 clear h
 have HC3 := Aside0.mk H
 clear H
 go_enter Try.func61, Try.ntmps61
 go_upto_region 1 with (fail)
 go_cut [13] (fun v13 wc => ∃ (kq : Nat) (x13_2 : Bool), v13 = .bool x13_2 ∧ Aside0 (lead_Run.j0 kq a0 a1 x13_2 = some (r1, r2, r3)) ∧ Aside0 (kq ≤ k) ∧ Aside0 (Below w.heap.size w wc))
 case first =>
  have H := HC3.out
  clear HC3
  by_cases c4 : a1 < 1
  ·
   rw [if_pos c4] at H
   have c4b0 : decide (a1 < 1) = true := decide_eq_true c4
   clear c4
   (first | rw [c4b0] | (simp only [i64_w, i32_w]; rw [c4b0]) | skip)
   have H' := Aside0.mk H
   clear H
   go_wp2
   go_meet
   case rel => exact ⟨_, (true), (by first | rfl | (simp; done) | (simp [*]; done)), H', ⟨by first | omega | exact Nat.le_refl _⟩, ⟨bR3 HB.out⟩⟩
  ·
   rw [if_neg c4] at H
   have c4b0 : decide (a1 < 1) = false := decide_eq_false c4
   clear c4
   (first | rw [c4b0] | (simp only [i64_w, i32_w]; rw [c4b0]) | skip)
   have H' := Aside0.mk H
   clear H
   go_wp2
   go_meet
   case rel => exact ⟨_, (decide (a1 > 64)), (by first | rfl | (simp; done) | (simp [*]; done)), H', ⟨by first | omega | exact Nat.le_refl _⟩, ⟨bR3 HB.out⟩⟩
 case rest =>
  clear HC3
  try clear p2
  try clear c4
  try clear c4b0
  obtain ⟨kq, x13_2, rfl, HA, HJ2, HB⟩ := hcut
  cases kq with
  | zero => exact absurd HA.out (by simp [lead_Run.j0])
  | succ kj2 =>
   have H := HA.out
   clear HA
   simp only [lead_Run.j0] at H
   by_cases c5 : x13_2 = true
   ·
    subst c5
    rw [if_pos rfl] at H
    simp only [Option.some.injEq, Prod.mk.injEq] at H
    obtain ⟨rfl, rfl, rfl⟩ := H
    go_wp2
    go_ret3
    exact ⟨eR3, bR3 HB.out⟩
   ·
    replace c5 := Bool.eq_false_iff.mpr c5
    subst c5
    rw [if_neg (show ¬ (false = true) by decide)] at H
    obtain ⟨ji6, hji6⟩ : ∃ j_ : Int, (wrap64 (64 - a1)) = j_ := ⟨_, rfl⟩
    replace H : (if 0 ≤ (ji6) then (if ((shl .u64 a0 (ji6)) / 9223372036854775808) = 1 then ((bits_LeadingZeros64.f kj2 (Go.bits .xor .u64 18446744073709551615 (shl .u64 a0 (ji6)))).bind fun t112 => (some ((((shl .u64 a0 (ji6)) / 9223372036854775808) == 1), mn t112 a1, none))) else ((bits_LeadingZeros64.f kj2 (shl .u64 a0 (ji6))).bind fun t113 => (some ((((shl .u64 a0 (ji6)) / 9223372036854775808) == 1), mn t113 a1, none)))) else (none)) = some (r1, r2, r3) := by first | (rw [hji6] at H; exact H) | (simp only [hji6] at H ⊢; exact H)
    have hji6w : (IntKind.i64.wrap (64 - a1)) = ji6 := (i64_w _).trans hji6
    by_cases c7 : 0 ≤ (ji6)
    ·
     rw [if_pos c7] at H
     have c7b0 := eq_true c7
     have c7b1 : decide (0 ≤ (ji6)) = true := decide_eq_true c7
     clear c7
     obtain ⟨ji8, hji8⟩ : ∃ j_ : Int, (shl .u64 a0 (ji6)) = j_ := ⟨_, rfl⟩
     replace H : (if ((ji8) / 9223372036854775808) = 1 then ((bits_LeadingZeros64.f kj2 (Go.bits .xor .u64 18446744073709551615 (ji8))).bind fun t112 => (some ((((ji8) / 9223372036854775808) == 1), mn t112 a1, none))) else ((bits_LeadingZeros64.f kj2 (ji8)).bind fun t113 => (some ((((ji8) / 9223372036854775808) == 1), mn t113 a1, none)))) = some (r1, r2, r3) := by first | (rw [hji8] at H; exact H) | (simp only [hji8] at H ⊢; exact H)
     have hji8_ : (IntKind.u64.wrap (a0 * 2 ^ min (ji6).toNat 64)) = ji8 := hji8
     have hji8z : (ji6) ≤ 64 → (IntKind.u64.wrap (a0 * 2 ^ (ji6).toNat)) = ji8 := shl_small hji8
     by_cases c9 : ((ji8) / 9223372036854775808) = 1
     ·
      rw [if_pos c9] at H
      have c9b0 : (((ji8) / 9223372036854775808) == 1) = true := beq_iff_eq.mpr c9
      have c9b1 : (((ji8) / 9223372036854775808) != 1) = false := bne_eq_false_iff_eq.mpr c9
      clear c9
      replace H := Option.bind_eq_some_iff.mp H
      obtain ⟨t112, A100, H⟩ := H
      try dsimp -simprocs only at H
      have A10 := Aside0.mk A100
      clear A100
      obtain ⟨ji11, hji11⟩ : ∃ j_ : Int, (mn t112 a1) = j_ := ⟨_, rfl⟩
      replace H : (some ((((ji8) / 9223372036854775808) == 1), ji11, none)) = some (r1, r2, r3) := by first | (rw [hji11] at H; exact H) | (simp only [hji11] at H ⊢; exact H)
      (try rw [hji11] at A10)
      have hji11_ : (if a1 < t112 then a1 else t112) = ji11 := hji11
      simp only [Option.some.injEq, Prod.mk.injEq] at H
      obtain ⟨rfl, rfl, rfl⟩ := H
      go_wp2_with (first | ((with_reducible refine gC (f := 33) rfl ?_); (with_reducible refine gD (N := 27) rfl ?_); refine goesL_ (some 27) rfl rfl Try.func33 (by kernel_rfl) rfl #[.int .u64 (Go.bits .xor .u64 18446744073709551615 (ji8))] rfl (by (try simp only [List.map_toArray, List.map_cons, List.map_nil]); first | done | (simp only [hji8]; rfl) | rfl | (simp only [List.length_drop, List.length_take]; rfl)) ?_; (with_reducible refine (bits_LeadingZeros64.calls kj2 (Go.bits .xor .u64 18446744073709551615 (ji8)) t112 _ A10.out).mono ?_); rintro e w' ⟨rfl, ⟨nd, rfl⟩⟩; refine ⟨_, rfl, ?_⟩))
      go_ret3
      exact ⟨by first | rfl | (simp [errW_none, errW_some] <;> rfl) | (simp only [← hji6, ← hji8, ← hji11]; first | rfl | (simp [errW_none, errW_some] <;> rfl)) | (simp [*, errW_none, errW_some] <;> rfl), bR3 HB.out⟩
     ·
      rw [if_neg c9] at H
      have c9b0 : (((ji8) / 9223372036854775808) == 1) = false := beq_eq_false_iff_ne.mpr c9
      have c9b1 : (((ji8) / 9223372036854775808) != 1) = true := bne_iff_ne.mpr c9
      replace H := Option.bind_eq_some_iff.mp H
      obtain ⟨t113, A120, H⟩ := H
      try dsimp -simprocs only at H
      have A12 := Aside0.mk A120
      clear A120
      obtain ⟨ji13, hji13⟩ : ∃ j_ : Int, (mn t113 a1) = j_ := ⟨_, rfl⟩
      replace H : (some ((((ji8) / 9223372036854775808) == 1), ji13, none)) = some (r1, r2, r3) := by first | (rw [hji13] at H; exact H) | (simp only [hji13] at H ⊢; exact H)
      (try rw [hji13] at A12)
      have hji13_ : (if a1 < t113 then a1 else t113) = ji13 := hji13
      simp only [Option.some.injEq, Prod.mk.injEq] at H
      obtain ⟨rfl, rfl, rfl⟩ := H
      go_wp2_with (first | ((with_reducible refine gC (f := 33) rfl ?_); (with_reducible refine gD (N := 27) rfl ?_); refine goesL_ (some 27) rfl rfl Try.func33 (by kernel_rfl) rfl #[.int .u64 ji8] rfl (by (try simp only [List.map_toArray, List.map_cons, List.map_nil]); first | done | (simp only [hji8]; rfl) | rfl | (simp only [List.length_drop, List.length_take]; rfl)) ?_; (with_reducible refine (bits_LeadingZeros64.calls kj2 ji8 t113 _ A12.out).mono ?_); rintro e w' ⟨rfl, ⟨nd, rfl⟩⟩; refine ⟨_, rfl, ?_⟩))
      go_ret3
      exact ⟨by first | rfl | (simp [errW_none, errW_some] <;> rfl) | (simp only [← hji6, ← hji8, ← hji13]; first | rfl | (simp [errW_none, errW_some] <;> rfl)) | (simp [*, errW_none, errW_some] <;> rfl), bR3 HB.out⟩
    ·
     rw [if_neg c7] at H
     exact absurd H (by simp)
def lead_field.f (a0 : Int) (a1 : Int) : Option (Bool) := if a0 ≥ 0 then (if a0 ≤ 64 then (if a1 ≥ 0 then (some (decide (a1 ≤ (wrap64 (64 - a0))))) else (some false)) else (some false)) else (some false)
set_option maxHeartbeats 8000000 in
set_option maxRecDepth 100000 in
theorem lead_field.calls (a0 : Int) (a1 : Int) (r : Bool) (w : World) (h : lead_field.f a0 a1 = some r) :
  Calls Try.prog 76 #[.int .i64 a0, .int .i64 a1] w fun e w' => e = .returned (.bool r) ∧ Drawn0 w w' := by
 have H : (if a0 ≥ 0 then (if a0 ≤ 64 then (if a1 ≥ 0 then (some (decide (a1 ≤ (wrap64 (64 - a0))))) else (some false)) else (some false)) else (some false)) = some r := h
 clear h
 by_cases c3 : a0 ≥ 0
 ·
  rw [if_pos c3] at H
  have c3b0 : decide (0 ≤ a0) = true := decide_eq_true c3
  clear c3
  by_cases c4 : a0 ≤ 64
  ·
   rw [if_pos c4] at H
   have c4b0 : decide (a0 ≤ 64) = true := decide_eq_true c4
   clear c4
   by_cases c5 : a1 ≥ 0
   ·
    rw [if_pos c5] at H
    have c5b0 : decide (0 ≤ a1) = true := decide_eq_true c5
    clear c5
    obtain rfl := Option.some.inj H
    go_enter Try.func76, Try.ntmps76
    go_wp2
    go_ret
    exact ⟨by first | rfl | (simp; done) | (simp [*]; done), by repeat (first | exact Drawn0.refl _ | apply Drawn0.step)⟩
   ·
    rw [if_neg c5] at H
    have c5b0 : decide (0 ≤ a1) = false := decide_eq_false c5
    clear c5
    obtain rfl := Option.some.inj H
    go_enter Try.func76, Try.ntmps76
    go_wp2
    go_ret
    exact ⟨by first | rfl | (simp; done) | (simp [*]; done), by repeat (first | exact Drawn0.refl _ | apply Drawn0.step)⟩
  ·
   rw [if_neg c4] at H
   have c4b0 : decide (a0 ≤ 64) = false := decide_eq_false c4
   clear c4
   obtain rfl := Option.some.inj H
   go_enter Try.func76, Try.ntmps76
   go_wp2
   go_ret
   exact ⟨by first | rfl | (simp; done) | (simp [*]; done), by repeat (first | exact Drawn0.refl _ | apply Drawn0.step)⟩
 ·
  rw [if_neg c3] at H
  have c3b0 : decide (0 ≤ a0) = false := decide_eq_false c3
  clear c3
  obtain rfl := Option.some.inj H
  go_enter Try.func76, Try.ntmps76
  go_wp2
  go_ret
  exact ⟨by first | rfl | (simp; done) | (simp [*]; done), by repeat (first | exact Drawn0.refl _ | apply Drawn0.step)⟩
def lead_Field.f (a0 : Int) (a1 : Int) (a2 : Int) : Option (Int × Option Int) := (lead_field.f a1 a2).bind fun t114 => (if t114 = true then (if 0 ≤ a1 then ((lead_ones.f a2).bind fun t115 => (some (Go.bits .and .u64 (shr .u64 a0 a1) t115, none))) else (none)) else (some (0, some 1)))
set_option maxHeartbeats 8000000 in
set_option maxRecDepth 100000 in
theorem lead_Field.calls (a0 : Int) (a1 : Int) (a2 : Int) (r1 : Int) (r2 : Option Int) (w : World) (h : lead_Field.f a0 a1 a2 = some (r1, r2)) :
  Calls Try.prog 62 #[.int .u64 a0, .int .i64 a1, .int .i64 a2] w fun e w' => e = .returned (.tuple #[.int .u64 r1, errW r2]) ∧ Drawn0 w w' := by
 have hu25 := Try.underlying25
 have hu29 := Try.underlying29
 have H : ((lead_field.f a1 a2).bind fun t114 => (if t114 = true then (if 0 ≤ a1 then ((lead_ones.f a2).bind fun t115 => (some (Go.bits .and .u64 (shr .u64 a0 a1) t115, none))) else (none)) else (some (0, some 1)))) = some (r1, r2) := h
 clear h
 replace H := Option.bind_eq_some_iff.mp H
 obtain ⟨t114, A40, H⟩ := H
 try dsimp -simprocs only at H
 have A4 := Aside0.mk A40
 clear A40
 by_cases c5 : t114 = true
 ·
  subst c5
  rw [if_pos rfl] at H
  by_cases c6 : 0 ≤ a1
  ·
   rw [if_pos c6] at H
   have c6b0 := eq_true c6
   have c6b1 : decide (0 ≤ a1) = true := decide_eq_true c6
   clear c6
   obtain ⟨ji7, hji7⟩ : ∃ j_ : Int, (shr .u64 a0 a1) = j_ := ⟨_, rfl⟩
   replace H : ((lead_ones.f a2).bind fun t115 => (some (Go.bits .and .u64 (ji7) t115, none))) = some (r1, r2) := by first | (rw [hji7] at H; exact H) | (simp only [hji7] at H ⊢; exact H)
   (try rw [hji7] at A4)
   have hji7_ : (a0 / 2 ^ min a1.toNat 64) = ji7 := hji7
   have hji7z : a1 ≤ 64 → (a0 / 2 ^ a1.toNat) = ji7 := shr_small hji7
   replace H := Option.bind_eq_some_iff.mp H
   obtain ⟨t115, A80, H⟩ := H
   try dsimp -simprocs only at H
   have A8 := Aside0.mk A80
   clear A80
   simp only [Option.some.injEq, Prod.mk.injEq] at H
   obtain ⟨rfl, rfl⟩ := H
   go_enter Try.func62, Try.ntmps62
   go_wp2_with (first | (go_at_call 76; (with_reducible refine (lead_field.calls a1 a2 true _ A4.out).mono ?_); rintro e w' ⟨rfl, ⟨nd, rfl⟩⟩; (try first | exact ⟨rfl, _, World.drewN_drewN _ _ _⟩ | exact ⟨rfl, _, Eq.trans (World.drewN_drewN _ _ _) (congrArg (World.drewN _) (Nat.add_assoc _ _ _))⟩)) | (go_at_call 77; (with_reducible refine (lead_ones.calls a2 t115 _ A8.out).mono ?_); rintro e w' ⟨rfl, ⟨nd, rfl⟩⟩; (try first | exact ⟨rfl, _, World.drewN_drewN _ _ _⟩ | exact ⟨rfl, _, Eq.trans (World.drewN_drewN _ _ _) (congrArg (World.drewN _) (Nat.add_assoc _ _ _))⟩)))
   repeat (go_quiet (first | (go_at_call 76; (with_reducible refine (lead_field.calls a1 a2 true _ A4.out).mono ?_); rintro e w' ⟨rfl, ⟨nd, rfl⟩⟩; (try first | exact ⟨rfl, _, World.drewN_drewN _ _ _⟩ | exact ⟨rfl, _, Eq.trans (World.drewN_drewN _ _ _) (congrArg (World.drewN _) (Nat.add_assoc _ _ _))⟩)) | (go_at_call 77; (with_reducible refine (lead_ones.calls a2 t115 _ A8.out).mono ?_); rintro e w' ⟨rfl, ⟨nd, rfl⟩⟩; (try first | exact ⟨rfl, _, World.drewN_drewN _ _ _⟩ | exact ⟨rfl, _, Eq.trans (World.drewN_drewN _ _ _) (congrArg (World.drewN _) (Nat.add_assoc _ _ _))⟩))); try go_wp2_with (first | (go_at_call 76; (with_reducible refine (lead_field.calls a1 a2 true _ A4.out).mono ?_); rintro e w' ⟨rfl, ⟨nd, rfl⟩⟩; (try first | exact ⟨rfl, _, World.drewN_drewN _ _ _⟩ | exact ⟨rfl, _, Eq.trans (World.drewN_drewN _ _ _) (congrArg (World.drewN _) (Nat.add_assoc _ _ _))⟩)) | (go_at_call 77; (with_reducible refine (lead_ones.calls a2 t115 _ A8.out).mono ?_); rintro e w' ⟨rfl, ⟨nd, rfl⟩⟩; (try first | exact ⟨rfl, _, World.drewN_drewN _ _ _⟩ | exact ⟨rfl, _, Eq.trans (World.drewN_drewN _ _ _) (congrArg (World.drewN _) (Nat.add_assoc _ _ _))⟩))))
   go_ret2
   exact ⟨by first | rfl | (simp; done) | (simp only [← hji7] <;> (first | rfl | simp)) | (simp [*]; done), by repeat (first | exact Drawn0.refl _ | apply Drawn0.step)⟩
  ·
   rw [if_neg c6] at H
   exact absurd H (by simp)
 ·
  replace c5 := Bool.eq_false_iff.mpr c5
  subst c5
  rw [if_neg (show ¬ (false = true) by decide)] at H
  simp only [Option.some.injEq, Prod.mk.injEq] at H
  obtain ⟨rfl, rfl⟩ := H
  go_enter Try.func62, Try.ntmps62
  go_wp2_with (first | (go_at_call 76; (with_reducible refine (lead_field.calls a1 a2 false _ A4.out).mono ?_); rintro e w' ⟨rfl, ⟨nd, rfl⟩⟩; (try first | exact ⟨rfl, _, World.drewN_drewN _ _ _⟩ | exact ⟨rfl, _, Eq.trans (World.drewN_drewN _ _ _) (congrArg (World.drewN _) (Nat.add_assoc _ _ _))⟩)))
  repeat (go_quiet (first | (go_at_call 76; (with_reducible refine (lead_field.calls a1 a2 false _ A4.out).mono ?_); rintro e w' ⟨rfl, ⟨nd, rfl⟩⟩; (try first | exact ⟨rfl, _, World.drewN_drewN _ _ _⟩ | exact ⟨rfl, _, Eq.trans (World.drewN_drewN _ _ _) (congrArg (World.drewN _) (Nat.add_assoc _ _ _))⟩))); try go_wp2_with (first | (go_at_call 76; (with_reducible refine (lead_field.calls a1 a2 false _ A4.out).mono ?_); rintro e w' ⟨rfl, ⟨nd, rfl⟩⟩; (try first | exact ⟨rfl, _, World.drewN_drewN _ _ _⟩ | exact ⟨rfl, _, Eq.trans (World.drewN_drewN _ _ _) (congrArg (World.drewN _) (Nat.add_assoc _ _ _))⟩))))
  go_ret2
  exact ⟨by first | rfl | (simp; done) | (simp [*]; done), by repeat (first | exact Drawn0.refl _ | apply Drawn0.step)⟩
end Go.Proofs.Ytjlaijaadclghaa.F
