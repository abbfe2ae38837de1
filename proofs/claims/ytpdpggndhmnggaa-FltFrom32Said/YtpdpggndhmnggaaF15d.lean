/- Functions of the given program as plain Lean functions, and for each a proof that the program's call comes to just these answers; no further conditions. (Written by a program of this repo out of the translation.) -/
import Derived.Test.YtpdpggndhmnggaaF0d
import Derived.Test.YtpdpggndhmnggaaF16d
import Derived.Test.YtpdpggndhmnggaaF17d
import Derived.Test.YtpdpggndhmnggaaF18d
import Derived.Test.YtpdpggndhmnggaaF20d
namespace Go.Proofs.Ytpdpggndhmnggaa.F
open Go.RowKit Go.Proofs.YtpdpggndhmnggaaW.PrintWords Go.Proofs.YtpdpggndhmnggaaW.PrintLast Go.Proofs.YtpdpggndhmnggaaW.PrintMore
attribute [local go_sem high] xor_u64 xor_u32 eqErr25 neErr25 eqErrL25 neErrL25
attribute [local go_sem] max2_int min2_int max_two min_two max_three min_three max_four min_four   -- for this text's walks alone
set_option linter.unusedVariables false
set_option linter.unusedSimpArgs false
def vernierref17_two.l0 : Nat → Int → Int → Int → Option (Int)
 | 0, _, _, _ => none
 | k + 1, x0, x3, x4 => if x4 < x0 then (vernierref17_two.l0 k x0 (IntKind.u64.wrap (2 * x3)) (wrap64 (x4 + 1))) else (some x3)
def vernierref17_two.f (k : Nat) (a0 : Int) : Option (Int) := vernierref17_two.l0 k a0 1 0
set_option maxHeartbeats 8000000 in
set_option maxRecDepth 100000 in
theorem vernierref17_two.calls (k : Nat) (a0 : Int) (r : Int) (w : World) (h : vernierref17_two.f k a0 = some r) :
  Calls Try.prog 37 #[.int .i64 a0] w fun e w' => e = .returned (.int .u64 r) ∧ Drawn0 w w' := by
 have H : (vernierref17_two.l0 k a0 1 0) = some r := h
 clear h
 have H' := Aside0.mk H
 clear H
 go_enter Try.func37, Try.ntmps37
 go_wp2
 go_loopg [3, 4] k (fun kq v3 v4 w' => ∃ (x3_1 : Int) (x4_1 : Int), v3 = .int .u64 x3_1 ∧ v4 = .int .i64 x4_1 ∧ Aside0 (vernierref17_two.l0 kq a0 x3_1 x4_1 = some r) ∧ Aside0 (kq ≤ k) ∧ Drawn0 w w')
 case atStart => exact ⟨(1), (0), (by first | rfl | (simp; done) | (simp [*]; done)), (by first | rfl | (simp; done) | (simp [*]; done)), H', ⟨Nat.le_refl _⟩, by repeat (first | exact Drawn0.refl _ | apply Drawn0.step)⟩
 case round =>
  clear H'
  obtain ⟨x3_1, x4_1, rfl, rfl, HA, HK1, ⟨m1, rfl⟩⟩ := hrel
  cases gk with
  | zero => exact absurd HA.out (by simp [vernierref17_two.l0])
  | succ k1 =>
   have H := HA.out
   clear HA
   simp only [vernierref17_two.l0] at H
   by_cases c2 : x4_1 < a0
   ·
    rw [if_pos c2] at H
    have c2b0 : decide (x4_1 < a0) = true := decide_eq_true c2
    clear c2
    have H' := Aside0.mk H
    clear H
    go_wp2
    go_roundg k1
    case measure => have := HK1.out; omega
    case rel => exact ⟨(IntKind.u64.wrap (2 * x3_1)), (wrap64 (x4_1 + 1)), (by first | rfl | (simp; done) | (simp [*]; done)), (by first | rfl | (simp; done) | (simp [*]; done)), H', ⟨by have := HK1.out; omega⟩, by repeat (first | exact Drawn0.refl _ | apply Drawn0.step)⟩
   ·
    rw [if_neg c2] at H
    have c2b0 : decide (x4_1 < a0) = false := decide_eq_false c2
    clear c2
    obtain rfl := Option.some.inj H
    go_wp2
    go_ret
    exact ⟨by first | rfl | (simp; done) | (simp [*]; done), by repeat (first | exact Drawn0.refl _ | apply Drawn0.step)⟩
def vernierref17_Form_exps.f (a0_0 : Int) (a0_1 : Int) : Option (Int) := if a0_0 = 52 then (some 2048) else (some 256)
set_option maxHeartbeats 8000000 in
set_option maxRecDepth 100000 in
theorem vernierref17_Form_exps.calls (a0_0 : Int) (a0_1 : Int) (r : Int) (w : World) (h : vernierref17_Form_exps.f a0_0 a0_1 = some r) :
  Calls Try.prog 38 #[.agg #[.int .i64 a0_0, .int .i64 a0_1]] w fun e w' => e = .returned (.int .u64 r) ∧ Below w.heap.size w w' := by
 have hu32 := Try.underlying32
 have HB := Aside0.mk (Below.refl w.heap.size w)
 have H : (if a0_0 = 52 then (some 2048) else (some 256)) = some r := h
 clear h
 by_cases c2 : a0_0 = 52
 ·
  rw [if_pos c2] at H
  have c2b0 : (a0_0 == 52) = true := beq_iff_eq.mpr c2
  have c2b1 : (a0_0 != 52) = false := bne_eq_false_iff_eq.mpr c2
  clear c2
  obtain rfl := Option.some.inj H
  go_enter Try.func38, Try.ntmps38
  go_wp2_with (first | ((with_reducible refine gD (N := 1) rfl ?_); refine bE3 1 #[.int .i64 a0_0, .int .i64 a0_1] 32 ?hr ?_; (case hr => first | (go_simp; done) | (go_simp; rfl)); intro gb336 hg w3 hbox hb; have BK336 := Aside0.mk (hbox); have GW336 := Aside0.mk ((bZ3 hg HB.out)); have GE336 := Aside0.mk ((bZ3 hg HB.out)); replace HB := Aside0.mk (bS3 HB.out hb); clear hb hbox hg; obtain ⟨hcz4_0, hcz4_1, hfz4_0, hfz4_1⟩ := cl2 BK336.out))
  go_ret
  exact ⟨eR3, bR3 HB.out⟩
 ·
  rw [if_neg c2] at H
  have c2b0 : (a0_0 == 52) = false := beq_eq_false_iff_ne.mpr c2
  have c2b1 : (a0_0 != 52) = true := bne_iff_ne.mpr c2
  obtain rfl := Option.some.inj H
  go_enter Try.func38, Try.ntmps38
  go_wp2_with (first | ((with_reducible refine gD (N := 1) rfl ?_); refine bE3 1 #[.int .i64 a0_0, .int .i64 a0_1] 32 ?hr ?_; (case hr => first | (go_simp; done) | (go_simp; rfl)); intro gb336 hg w5 hbox hb; have BK336 := Aside0.mk (hbox); have GW336 := Aside0.mk ((bZ3 hg HB.out)); have GE336 := Aside0.mk ((bZ3 hg HB.out)); replace HB := Aside0.mk (bS3 HB.out hb); clear hb hbox hg; obtain ⟨hcz6_0, hcz6_1, hfz6_0, hfz6_1⟩ := cl2 BK336.out))
  go_ret
  exact ⟨eR3, bR3 HB.out⟩
def vernierref17_Form_From.f (k : Nat) (a0_0 : Int) (a0_1 : Int) (a1 : Int) (a2 : Int) : Option (Int × Int) := (vernierref05_Is.f a1).bind fun t454 => (if t454 = true then ((vernierref17_two.f k a0_0).bind fun t455 => (if t455 = 0 then (none) else ((vernierref17_Form_exps.f a0_0 a0_1).bind fun t456 => (if t456 = 0 then (none) else ((vernierref17_Form_exps.f a0_0 a0_1).bind fun t457 => (if t457 = 0 then (none) else ((vernierref17_Form_exps.f a0_0 a0_1).bind fun t458 => (if (Int.tmod (IntKind.u64.wrap (Int.tdiv a2 t455)) t456) = (IntKind.u64.wrap (t458 - 1)) then ((vernierref05_Power.f k (wrap64 (a1 - 1))).bind fun t459 => (some (t459, 0))) else (if (Int.tmod (IntKind.u64.wrap (Int.tdiv a2 t455)) t456) > 0 then ((vernierref04_Of.f k (IntKind.u64.wrap ((Int.tmod a2 t455) + t455))).bind fun t460 => ((vernierref07_Exactly.f k ((Int.tmod (IntKind.u64.wrap (Int.tdiv (IntKind.u64.wrap (Int.tdiv a2 t455)) t457)) 2) == 1) t460 (wrap64 (a0_1 + (wrap64 (IntKind.u64.wrap ((Int.tmod (IntKind.u64.wrap (Int.tdiv a2 t455)) t456) - 1))))) false).bind fun bt463 => ((vernierref07_Round.f k a1 bt463.1 bt463.2.1 bt463.2.2.1 bt463.2.2.2.1 bt463.2.2.2.2.1 bt463.2.2.2.2.2).bind fun t470 => (some (t470, 0))))) else ((vernierref04_Of.f k (Int.tmod a2 t455)).bind fun t471 => ((vernierref07_Exactly.f k ((Int.tmod (IntKind.u64.wrap (Int.tdiv (IntKind.u64.wrap (Int.tdiv a2 t455)) t457)) 2) == 1) t471 (wrap64 (a0_1 + (wrap64 (Int.tmod (IntKind.u64.wrap (Int.tdiv a2 t455)) t456)))) false).bind fun bt474 => ((vernierref07_Round.f k a1 bt474.1 bt474.2.1 bt474.2.2.1 bt474.2.2.2.1 bt474.2.2.2.2.1 bt474.2.2.2.2.2).bind fun t481 => (some (t481, 0)))))))))))))) else (some (0, 2)))
def vernierref17_Form_From.T7 : Bool × List (List Nat × List Nat) := (true, [([], []), ([], []), ([0, 1], [0, 1]), ([], []), ([3], [3]), ([2, 4], [2, 4]), ([5], [5]), ([6], [6]), ([7, 4, 0, 1, 2, 3, 4, 5, 6, 7], [7])])
def vernierref17_Form_From.B7 : List Nat := [0, 0, 3, 0, 8, 31, 63, 127, 255]
theorem vernierref17_Form_From.tab7 : rtab .any (opsOf Try.f14 7) = vernierref17_Form_From.T7 := by kernel_rfl
theorem vernierref17_Form_From.bits7 : waitsOk vernierref17_Form_From.T7.2 vernierref17_Form_From.B7 = true := by kernel_rfl
def vernierref17_Form_From.T13 : Bool × List (List Nat × List Nat) := (true, [([], []), ([], []), ([1], [1]), ([], []), ([3], [3]), ([], []), ([5], [5]), ([4, 6], [4, 6]), ([0, 2, 7, 2], [0, 2, 7]), ([], []), ([9, 8, 8, 0, 1, 2, 3, 4, 5, 6, 7, 8, 9], [8, 9])])
def vernierref17_Form_From.B13 : List Nat := [0, 0, 2, 0, 8, 0, 32, 120, 255, 0, 1023]
theorem vernierref17_Form_From.tab13 : rtab .any (opsOf Try.f14 13) = vernierref17_Form_From.T13 := by kernel_rfl
theorem vernierref17_Form_From.bits13 : waitsOk vernierref17_Form_From.T13.2 vernierref17_Form_From.B13 = true := by kernel_rfl
set_option maxHeartbeats 8000000 in
set_option maxRecDepth 100000 in
theorem vernierref17_Form_From.calls (k : Nat) (a0_0 : Int) (a0_1 : Int) (a1 : Int) (a2 : Int) (r1 : Int) (r2 : Int) (w : World) (h : vernierref17_Form_From.f k a0_0 a0_1 a1 a2 = some (r1, r2)) :
  Calls Try.prog 14 #[.agg #[.int .i64 a0_0, .int .i64 a0_1], .int .i64 a1, .int .u64 a2] w fun e w' => e = .returned (.tuple #[.int .u64 r1, .int .i64 r2]) ∧ Below w.heap.size w w' := by
 have hu32 := Try.underlying32
 have hu61 := Try.underlying61
 have HB := Aside0.mk (Below.refl w.heap.size w)
 have H : ((vernierref05_Is.f a1).bind fun t454 => (if t454 = true then ((vernierref17_two.f k a0_0).bind fun t455 => (if t455 = 0 then (none) else ((vernierref17_Form_exps.f a0_0 a0_1).bind fun t456 => (if t456 = 0 then (none) else ((vernierref17_Form_exps.f a0_0 a0_1).bind fun t457 => (if t457 = 0 then (none) else ((vernierref17_Form_exps.f a0_0 a0_1).bind fun t458 => (if (Int.tmod (IntKind.u64.wrap (Int.tdiv a2 t455)) t456) = (IntKind.u64.wrap (t458 - 1)) then ((vernierref05_Power.f k (wrap64 (a1 - 1))).bind fun t459 => (some (t459, 0))) else (if (Int.tmod (IntKind.u64.wrap (Int.tdiv a2 t455)) t456) > 0 then ((vernierref04_Of.f k (IntKind.u64.wrap ((Int.tmod a2 t455) + t455))).bind fun t460 => ((vernierref07_Exactly.f k ((Int.tmod (IntKind.u64.wrap (Int.tdiv (IntKind.u64.wrap (Int.tdiv a2 t455)) t457)) 2) == 1) t460 (wrap64 (a0_1 + (wrap64 (IntKind.u64.wrap ((Int.tmod (IntKind.u64.wrap (Int.tdiv a2 t455)) t456) - 1))))) false).bind fun bt463 => ((vernierref07_Round.f k a1 bt463.1 bt463.2.1 bt463.2.2.1 bt463.2.2.2.1 bt463.2.2.2.2.1 bt463.2.2.2.2.2).bind fun t470 => (some (t470, 0))))) else ((vernierref04_Of.f k (Int.tmod a2 t455)).bind fun t471 => ((vernierref07_Exactly.f k ((Int.tmod (IntKind.u64.wrap (Int.tdiv (IntKind.u64.wrap (Int.tdiv a2 t455)) t457)) 2) == 1) t471 (wrap64 (a0_1 + (wrap64 (Int.tmod (IntKind.u64.wrap (Int.tdiv a2 t455)) t456)))) false).bind fun bt474 => ((vernierref07_Round.f k a1 bt474.1 bt474.2.1 bt474.2.2.1 bt474.2.2.2.1 bt474.2.2.2.2.1 bt474.2.2.2.2.2).bind fun t481 => (some (t481, 0)))))))))))))) else (some (0, 2)))) = some (r1, r2) := h
 clear h
 replace H := Option.bind_eq_some_iff.mp H
 obtain ⟨t454, A40, H⟩ := H
 try dsimp -simprocs only at H
 have A4 := Aside0.mk A40
 clear A40
 by_cases c5 : t454 = true
 ·
  subst c5
  rw [if_pos rfl] at H
  replace H := Option.bind_eq_some_iff.mp H
  obtain ⟨t455, A60, H⟩ := H
  try dsimp -simprocs only at H
  have A6 := Aside0.mk A60
  clear A60
  by_cases c7 : t455 = 0
  ·
   rw [if_pos c7] at H
   exact absurd H (by simp)
  ·
   rw [if_neg c7] at H
   have c7b0 : (t455 == 0) = false := beq_eq_false_iff_ne.mpr c7
   have c7b1 : (t455 != 0) = true := bne_iff_ne.mpr c7
   replace H := Option.bind_eq_some_iff.mp H
   obtain ⟨t456, A80, H⟩ := H
   try dsimp -simprocs only at H
   have A8 := Aside0.mk A80
   clear A80
   by_cases c9 : t456 = 0
   ·
    rw [if_pos c9] at H
    exact absurd H (by simp)
   ·
    rw [if_neg c9] at H
    have c9b0 : (t456 == 0) = false := beq_eq_false_iff_ne.mpr c9
    have c9b1 : (t456 != 0) = true := bne_iff_ne.mpr c9
    replace H := Option.bind_eq_some_iff.mp H
    obtain ⟨t457, A100, H⟩ := H
    try dsimp -simprocs only at H
    have A10 := Aside0.mk A100
    clear A100
    by_cases c11 : t457 = 0
    ·
     rw [if_pos c11] at H
     exact absurd H (by simp)
    ·
     rw [if_neg c11] at H
     have c11b0 : (t457 == 0) = false := beq_eq_false_iff_ne.mpr c11
     have c11b1 : (t457 != 0) = true := bne_iff_ne.mpr c11
     replace H := Option.bind_eq_some_iff.mp H
     obtain ⟨t458, A120, H⟩ := H
     try dsimp -simprocs only at H
     have A12 := Aside0.mk A120
     clear A120
     by_cases c13 : (Int.tmod (IntKind.u64.wrap (Int.tdiv a2 t455)) t456) = (IntKind.u64.wrap (t458 - 1))
     ·
      rw [if_pos c13] at H
      have c13b0 : ((Int.tmod (IntKind.u64.wrap (Int.tdiv a2 t455)) t456) == (IntKind.u64.wrap (t458 - 1))) = true := beq_iff_eq.mpr c13
      have c13b1 : ((Int.tmod (IntKind.u64.wrap (Int.tdiv a2 t455)) t456) != (IntKind.u64.wrap (t458 - 1))) = false := bne_eq_false_iff_eq.mpr c13
      clear c13
      replace H := Option.bind_eq_some_iff.mp H
      obtain ⟨t459, A140, H⟩ := H
      try dsimp -simprocs only at H
      have A14 := Aside0.mk A140
      clear A140
      simp only [Option.some.injEq, Prod.mk.injEq] at H
      obtain ⟨rfl, rfl⟩ := H
      go_enter Try.func14, Try.ntmps14
      try go_wp2_with (first | ((with_reducible refine gD (N := 3) rfl ?_); refine bE3 3 #[.int .i64 a0_0, .int .i64 a0_1] 32 ?hr ?_; (case hr => first | (go_simp; done) | (go_simp; rfl)); intro gb453 hg w15 hbox hb; have BK453 := Aside0.mk (hbox); have GW453 := Aside0.mk ((bZ3 hg HB.out)); have GE453 := Aside0.mk ((bZ3 hg HB.out)); replace HB := Aside0.mk (bS3 HB.out hb); clear hb hbox hg) | ((with_reducible refine gX_ 17 15 rfl rfl ?_); refine goesY_ (some 15) Try.func17 #[.int .i64 a1] ?_; (with_reducible refine (vernierref05_Is.calls a1 true _ A4.out).mono ?_); rintro e w' ⟨rfl, ⟨nd, rfl⟩⟩; refine ⟨_, rfl, ?_⟩; obtain ⟨hcz16_0, hcz16_1, hfz16_0, hfz16_1⟩ := cl2 BK453.out) | ((with_reducible refine gX_ 37 20 rfl rfl ?_); refine goesY_ (some 20) Try.func37 #[.int .i64 a0_0] ?_; (with_reducible refine (vernierref17_two.calls k a0_0 t455 _ A6.out).mono ?_); rintro e w' ⟨rfl, ⟨nd, rfl⟩⟩; refine ⟨_, rfl, ?_⟩))
      (try (rw [drewN_self w15]; generalize hq_ : World.drewN w15 _ = w15; have n0_ : Aside0 (w15.heap[gb453]? = some (.cells #[.int .i64 a0_0, .int .i64 a0_1] 32 (0, 0))) := ⟨by rw [← hq_]; exact (bK3 BK453.out)⟩; have n1_ : Aside0 (Below w.heap.size w w15) := ⟨by rw [← hq_]; exact (bR3 HB.out)⟩; clear BK453 HB hq_; have BK453 := n0_; have HB := n1_; clear n0_ n1_))
      have n0_ := Aside0.mk (bD BK453.out)
      have n1_ := Aside0.mk (p1 HB.out)
      clear BK453
      clear HB
      have BK453 := n0_
      have HB := n1_
      clear n0_ n1_
      refine start_ (n := 7) (S := fun w' => w'.cell? ⟨gb453, 0, none⟩ = some (.int .i64 a0_0) ∧ w'.cell? ⟨gb453, 1, none⟩ = some (.int .i64 a0_1)) (ds := []) #[false, false, false, false, false, false, false] (by kernel_rfl) rfl rfl ⟨(blk_cell BK453.out 0).trans rfl, (blk_cell BK453.out 1).trans rfl⟩ (fun hHeld => ?_)
      generalize w15.drew = w17 at BK453 HB hHeld ⊢
      refine pure_ (i := 0) (N := some 24) (v := ?_) (a' := ?_) #[true, false, false, false, false, false, false] rfl rfl (by kernel_rfl) (fun _ _ _ h => h) (Or.inl ⟨by rfl, ?_⟩) ?_ ?_
      rotate_left
      ·
       intro w'
       go_simp
       with_reducible rfl
      rotate_left
      ·
       simp only [Act.put, lS_, lZ_, lC_, i64_w, i32_w]
       rfl
      refine pure_ (i := 1) (N := some 25) (v := ?_) (a' := ?_) #[true, true, false, false, false, false, false] rfl rfl (by kernel_rfl) (fun _ _ _ h => h) (Or.inl ⟨by rfl, ?_⟩) ?_ ?_
      rotate_left
      ·
       intro w'
       go_simp
       with_reducible rfl
      rotate_left
      ·
       simp only [Act.put, lS_, lZ_, lC_, i64_w, i32_w]
       rfl
      refine pure_ (i := 2) (N := some 26) (v := ?_) (a' := ?_) #[true, true, true, false, false, false, false] rfl rfl (by kernel_rfl) (fun _ _ _ h => h) (Or.inl ⟨by rfl, ?_⟩) ?_ ?_
      rotate_left
      ·
       intro w'
       go_simp
       with_reducible rfl
      rotate_left
      ·
       simp only [Act.put, lS_, lZ_, lC_, i64_w, i32_w]
       rfl
      refine take_ (i := 3) (N := some 27) (v := ?_) (a' := ?_) #[true, true, true, true, false, false, false] rfl rfl (by kernel_rfl) (fun _ _ _ h => h) (Or.inl ⟨by rfl, ?_⟩) hHeld ?_ ?_
      rotate_left
      ·
       rintro w' ⟨s0, s1⟩
       go_simp
       with_reducible rfl
      rotate_left
      ·
       simp only [Act.put, lS_, lZ_, lC_, i64_w, i32_w]
       rfl
      refine one_ (i := 4) (N := some 28) #[true, true, true, true, true, false, false] rfl rfl (by kernel_rfl) (by decide) (fun K hK => ?_)
      refine goes_ Try.func38 (by kernel_rfl) rfl #[.agg #[.int .i64 a0_0, .int .i64 a0_1]] (by rfl) rfl rfl (by (try simp only [List.map_toArray, List.map_cons, List.map_nil]); first | done | rfl | (simp only [List.length_drop, List.length_take]; rfl)) ?_
      with_reducible refine (vernierref17_Form_exps.calls a0_0 a0_1 t456 _ A8.out).mono ?_
      rintro e w18 ⟨rfl, hb⟩
      refine ⟨_, rfl, ?_⟩
      have n0_ := Aside0.mk (bB3 BK453.out hb)
      have n1_ := Aside0.mk (bS3 HB.out hb)
      clear BK453
      clear HB
      have BK453 := n0_
      have HB := n1_
      clear n0_ n1_
      (try clear hb)
      (try clear hb2)
      (try clear hk)
      (try clear hi)
      refine hK.out _ _ ⟨(blk_cell BK453.out 0).trans rfl, (blk_cell BK453.out 1).trans rfl⟩ (fun hHeld => ?_)
      clear hK K
      refine norm_ (a' := ?_) ?_ ?_
      rotate_left
      ·
       show Act.put _ (some 28) _ = _
       simp only [Act.put, lS_, lZ_, lC_, i64_w, i32_w]
       rfl
      refine pure_ (i := 5) (N := some 29) (v := ?_) (a' := ?_) #[true, true, true, true, true, true, false] rfl rfl (by kernel_rfl) (fun _ _ _ h => h) (Or.inl ⟨by rfl, ?_⟩) ?_ ?_
      rotate_left
      ·
       intro w'
       go_simp
       with_reducible rfl
      rotate_left
      ·
       simp only [Act.put, lS_, lZ_, lC_, i64_w, i32_w]
       rfl
      refine pure_ (i := 6) (N := some 11) (v := ?_) (a' := ?_) #[true, true, true, true, true, true, true] rfl rfl (by kernel_rfl) (fun _ _ _ h => h) (Or.inl ⟨by rfl, ?_⟩) ?_ ?_
      rotate_left
      ·
       intro w'
       go_simp
       with_reducible rfl
      rotate_left
      ·
       simp only [Act.put, lS_, lZ_, lC_, i64_w, i32_w]
       rfl
      refine done_ (by kernel_rfl) ?_
      try go_wp2
      have n0_ := Aside0.mk (bD BK453.out)
      have n1_ := Aside0.mk (p1 HB.out)
      clear BK453
      clear HB
      have BK453 := n0_
      have HB := n1_
      clear n0_ n1_
      refine start_ (n := 9) (S := fun w' => w'.cell? ⟨gb453, 0, none⟩ = some (.int .i64 a0_0) ∧ w'.cell? ⟨gb453, 1, none⟩ = some (.int .i64 a0_1)) (ds := []) #[false, false, false, false, false, false, false, false, false] (by kernel_rfl) rfl rfl ⟨(blk_cell BK453.out 0).trans rfl, (blk_cell BK453.out 1).trans rfl⟩ (fun hHeld => ?_); refine with_tabW vernierref17_Form_From.tab7 vernierref17_Form_From.bits7 (fun HT_ HW_ => ?_)
      generalize w18.drew = w19 at BK453 HB hHeld ⊢
      refine pure_ (i := 0) (N := some 30) (v := ?_) (a' := ?_) #[true, false, false, false, false, false, false, false, false] rfl rfl (any_of HT_.out (by kernel_rfl)) (fun _ _ _ h => h) (Or.inl ⟨by rfl, ?_⟩) ?_ ?_
      rotate_left
      ·
       intro w'
       go_simp
       with_reducible rfl
      rotate_left
      ·
       simp only [Act.put, lS_, lZ_, lC_, i64_w, i32_w]
       rfl
      refine pure_ (i := 1) (N := some 31) (v := ?_) (a' := ?_) #[true, true, false, false, false, false, false, false, false] rfl rfl (any_of HT_.out (by kernel_rfl)) (fun _ _ _ h => h) (Or.inl ⟨by rfl, ?_⟩) ?_ ?_
      rotate_left
      ·
       intro w'
       go_simp
       with_reducible rfl
      rotate_left
      ·
       simp only [Act.put, lS_, lZ_, lC_, i64_w, i32_w]
       rfl
      refine pure_ (i := 2) (N := some 32) (v := ?_) (a' := ?_) #[true, true, true, false, false, false, false, false, false] rfl rfl (any_of HT_.out (by kernel_rfl)) (fun _ _ _ h => h) (Or.inl ⟨by rfl, ?_⟩) ?_ ?_
      rotate_left
      ·
       intro w'
       go_simp
       with_reducible rfl
      rotate_left
      ·
       simp only [Act.put, lS_, lZ_, lC_, i64_w, i32_w]
       rfl
      refine take_ (i := 3) (N := some 33) (v := ?_) (a' := ?_) #[true, true, true, true, false, false, false, false, false] rfl rfl (take_ofW HT_.out HW_.out (by kernel_rfl)) (fun _ _ _ h => h) (Or.inl ⟨by rfl, ?_⟩) hHeld ?_ ?_
      rotate_left
      ·
       rintro w' ⟨s0, s1⟩
       go_simp
       with_reducible rfl
      rotate_left
      ·
       simp only [Act.put, lS_, lZ_, lC_, i64_w, i32_w]
       rfl
      refine one_ (i := 4) (N := some 34) #[true, true, true, true, true, false, false, false, false] rfl rfl (one_of HT_.out (by kernel_rfl)) (by decide) (fun K hK => ?_)
      refine goes_ Try.func38 (by kernel_rfl) rfl #[.agg #[.int .i64 a0_0, .int .i64 a0_1]] (by rfl) rfl rfl (by (try simp only [List.map_toArray, List.map_cons, List.map_nil]); first | done | rfl | (simp only [List.length_drop, List.length_take]; rfl)) ?_
      with_reducible refine (vernierref17_Form_exps.calls a0_0 a0_1 t457 _ A10.out).mono ?_
      rintro e w20 ⟨rfl, hb⟩
      refine ⟨_, rfl, ?_⟩
      have n0_ := Aside0.mk (bB3 BK453.out hb)
      have n1_ := Aside0.mk (bS3 HB.out hb)
      clear BK453
      clear HB
      have BK453 := n0_
      have HB := n1_
      clear n0_ n1_
      (try clear hb)
      (try clear hb2)
      (try clear hk)
      (try clear hi)
      refine hK.out _ _ ⟨(blk_cell BK453.out 0).trans rfl, (blk_cell BK453.out 1).trans rfl⟩ (fun hHeld => ?_)
      clear hK K
      refine norm_ (a' := ?_) ?_ ?_
      rotate_left
      ·
       show Act.put _ (some 34) _ = _
       simp only [Act.put, lS_, lZ_, lC_, i64_w, i32_w]
       rfl
      refine pure_ (i := 5) (N := some 35) (v := ?_) (a' := ?_) #[true, true, true, true, true, true, false, false, false] rfl rfl (any_of HT_.out (by kernel_rfl)) (fun _ _ _ h => h) (Or.inl ⟨by rfl, ?_⟩) ?_ ?_
      rotate_left
      ·
       intro w'
       go_simp
       with_reducible rfl
      rotate_left
      ·
       simp only [Act.put, lS_, lZ_, lC_, i64_w, i32_w]
       rfl
      refine pure_ (i := 6) (N := some 36) (v := ?_) (a' := ?_) #[true, true, true, true, true, true, true, false, false] rfl rfl (any_of HT_.out (by kernel_rfl)) (fun _ _ _ h => h) (Or.inl ⟨by rfl, ?_⟩) ?_ ?_
      rotate_left
      ·
       intro w'
       go_simp
       with_reducible rfl
      rotate_left
      ·
       simp only [Act.put, lS_, lZ_, lC_, i64_w, i32_w]
       rfl
      refine pure_ (i := 7) (N := some 37) (v := ?_) (a' := ?_) #[true, true, true, true, true, true, true, true, false] rfl rfl (any_of HT_.out (by kernel_rfl)) (fun _ _ _ h => h) (Or.inl ⟨by rfl, ?_⟩) ?_ ?_
      rotate_left
      ·
       intro w'
       go_simp
       with_reducible rfl
      rotate_left
      ·
       simp only [Act.put, lS_, lZ_, lC_, i64_w, i32_w]
       rfl
      refine pure_ (i := 8) (N := some 12) (v := ?_) (a' := ?_) #[true, true, true, true, true, true, true, true, true] rfl rfl (any_of HT_.out (by kernel_rfl)) (fun _ _ _ h => h) (Or.inl ⟨by rfl, ?_⟩) ?_ ?_
      rotate_left
      ·
       intro w'
       go_simp
       with_reducible rfl
      rotate_left
      ·
       simp only [Act.put, lS_, lZ_, lC_, i64_w, i32_w]
       rfl
      refine done_ (done_of HT_.out (by kernel_rfl)) ?_
      obtain ⟨hcz21_0, hcz21_1, hfz21_0, hfz21_1⟩ := cl2 BK453.out
      try go_wp2_with (first | ((with_reducible refine gX_ 38 40 rfl rfl ?_); refine goesY_ (some 40) Try.func38 #[.agg #[.int .i64 a0_0, .int .i64 a0_1]] ?_; (with_reducible refine (vernierref17_Form_exps.calls a0_0 a0_1 t458 _ A12.out).mono ?_); rintro e w22 ⟨rfl, hb⟩; refine ⟨_, rfl, ?_⟩; replace BK453 := Aside0.mk (bB3 BK453.out hb); replace HB := Aside0.mk (bS3 HB.out hb); (try clear hb); (try clear hk)) | ((with_reducible refine gX_ 39 45 rfl rfl ?_); refine goesY_ (some 45) Try.func39 #[.int .i64 (wrap64 (a1 - 1))] ?_; (with_reducible refine (vernierref05_Power.calls k (wrap64 (a1 - 1)) t459 _ A14.out).mono ?_); rintro e w' ⟨rfl, ⟨nd, rfl⟩⟩; refine ⟨_, rfl, ?_⟩))
      go_ret2
      exact ⟨eR3, bR3 HB.out⟩
     ·
      rw [if_neg c13] at H
      have c13b0 : ((Int.tmod (IntKind.u64.wrap (Int.tdiv a2 t455)) t456) == (IntKind.u64.wrap (t458 - 1))) = false := beq_eq_false_iff_ne.mpr c13
      have c13b1 : ((Int.tmod (IntKind.u64.wrap (Int.tdiv a2 t455)) t456) != (IntKind.u64.wrap (t458 - 1))) = true := bne_iff_ne.mpr c13
      by_cases c23 : (Int.tmod (IntKind.u64.wrap (Int.tdiv a2 t455)) t456) > 0
      ·
       rw [if_pos c23] at H
       have c23b0 : decide (0 < (Int.tmod (IntKind.u64.wrap (Int.tdiv a2 t455)) t456)) = true := decide_eq_true c23
       clear c23
       replace H := Option.bind_eq_some_iff.mp H
       obtain ⟨t460, A240, H⟩ := H
       try dsimp -simprocs only at H
       have A24 := Aside0.mk A240
       clear A240
       replace H := Option.bind_eq_some_iff.mp H
       obtain ⟨⟨t463, t464, t465, t466, t467, t468⟩, A250, H⟩ := H
       try dsimp -simprocs only at H
       have A25 := Aside0.mk A250
       clear A250
       replace H := Option.bind_eq_some_iff.mp H
       obtain ⟨t470, A260, H⟩ := H
       try dsimp -simprocs only at H
       have A26 := Aside0.mk A260
       clear A260
       simp only [Option.some.injEq, Prod.mk.injEq] at H
       obtain ⟨rfl, rfl⟩ := H
       go_enter Try.func14, Try.ntmps14
       try go_wp2_with (first | ((with_reducible refine gD (N := 3) rfl ?_); refine bE3 3 #[.int .i64 a0_0, .int .i64 a0_1] 32 ?hr ?_; (case hr => first | (go_simp; done) | (go_simp; rfl)); intro gb453 hg w27 hbox hb; have BK453 := Aside0.mk (hbox); have GW453 := Aside0.mk ((bZ3 hg HB.out)); have GE453 := Aside0.mk ((bZ3 hg HB.out)); replace HB := Aside0.mk (bS3 HB.out hb); clear hb hbox hg) | ((with_reducible refine gX_ 17 15 rfl rfl ?_); refine goesY_ (some 15) Try.func17 #[.int .i64 a1] ?_; (with_reducible refine (vernierref05_Is.calls a1 true _ A4.out).mono ?_); rintro e w' ⟨rfl, ⟨nd, rfl⟩⟩; refine ⟨_, rfl, ?_⟩; (try (rw [drewN_self w27]; generalize hq_ : World.drewN w27 _ = w27; have n0_ : Aside0 (w27.heap[gb453]? = some (.cells #[.int .i64 a0_0, .int .i64 a0_1] 32 (0, 0))) := ⟨by rw [← hq_]; exact (bK3 BK453.out)⟩; have n1_ : Aside0 (Below w.heap.size w w27) := ⟨by rw [← hq_]; exact (bR3 HB.out)⟩; clear BK453 HB hq_; have BK453 := n0_; have HB := n1_; clear n0_ n1_)); obtain ⟨hcz28_0, hcz28_1, hfz28_0, hfz28_1⟩ := cl2 BK453.out) | ((with_reducible refine gX_ 37 20 rfl rfl ?_); refine goesY_ (some 20) Try.func37 #[.int .i64 a0_0] ?_; (with_reducible refine (vernierref17_two.calls k a0_0 t455 _ A6.out).mono ?_); rintro e w' ⟨rfl, ⟨nd, rfl⟩⟩; refine ⟨_, rfl, ?_⟩; (try (rw [drewN_self w27]; generalize hq_ : World.drewN w27 _ = w27; have n0_ : Aside0 (w27.heap[gb453]? = some (.cells #[.int .i64 a0_0, .int .i64 a0_1] 32 (0, 0))) := ⟨by rw [← hq_]; exact (bK3 BK453.out)⟩; have n1_ : Aside0 (Below w.heap.size w w27) := ⟨by rw [← hq_]; exact (bR3 HB.out)⟩; clear BK453 HB hq_; have BK453 := n0_; have HB := n1_; clear n0_ n1_)); (try have hcz28_0 : w27.cell? ⟨gb453, 0, none⟩ = some (.int .i64 a0_0) := (blk_cell BK453.out 0).trans rfl); (try have hcz28_1 : w27.cell? ⟨gb453, 1, none⟩ = some (.int .i64 a0_1) := (blk_cell BK453.out 1).trans rfl); (try have hfz28_0 := blk_frozen BK453.out 0); (try have hfz28_1 := blk_frozen BK453.out 1)))
       have n0_ := Aside0.mk (bD BK453.out)
       have n1_ := Aside0.mk (p1 HB.out)
       clear BK453
       clear HB
       have BK453 := n0_
       have HB := n1_
       clear n0_ n1_
       refine start_ (n := 7) (S := fun w' => w'.cell? ⟨gb453, 0, none⟩ = some (.int .i64 a0_0) ∧ w'.cell? ⟨gb453, 1, none⟩ = some (.int .i64 a0_1)) (ds := []) #[false, false, false, false, false, false, false] (by kernel_rfl) rfl rfl ⟨(blk_cell BK453.out 0).trans rfl, (blk_cell BK453.out 1).trans rfl⟩ (fun hHeld => ?_)
       generalize w27.drew = w29 at BK453 HB hHeld ⊢
       refine pure_ (i := 0) (N := some 24) (v := ?_) (a' := ?_) #[true, false, false, false, false, false, false] rfl rfl (by kernel_rfl) (fun _ _ _ h => h) (Or.inl ⟨by rfl, ?_⟩) ?_ ?_
       rotate_left
       ·
        intro w'
        go_simp
        with_reducible rfl
       rotate_left
       ·
        simp only [Act.put, lS_, lZ_, lC_, i64_w, i32_w]
        rfl
       refine pure_ (i := 1) (N := some 25) (v := ?_) (a' := ?_) #[true, true, false, false, false, false, false] rfl rfl (by kernel_rfl) (fun _ _ _ h => h) (Or.inl ⟨by rfl, ?_⟩) ?_ ?_
       rotate_left
       ·
        intro w'
        go_simp
        with_reducible rfl
       rotate_left
       ·
        simp only [Act.put, lS_, lZ_, lC_, i64_w, i32_w]
        rfl
       refine pure_ (i := 2) (N := some 26) (v := ?_) (a' := ?_) #[true, true, true, false, false, false, false] rfl rfl (by kernel_rfl) (fun _ _ _ h => h) (Or.inl ⟨by rfl, ?_⟩) ?_ ?_
       rotate_left
       ·
        intro w'
        go_simp
        with_reducible rfl
       rotate_left
       ·
        simp only [Act.put, lS_, lZ_, lC_, i64_w, i32_w]
        rfl
       refine take_ (i := 3) (N := some 27) (v := ?_) (a' := ?_) #[true, true, true, true, false, false, false] rfl rfl (by kernel_rfl) (fun _ _ _ h => h) (Or.inl ⟨by rfl, ?_⟩) hHeld ?_ ?_
       rotate_left
       ·
        rintro w' ⟨s0, s1⟩
        go_simp
        with_reducible rfl
       rotate_left
       ·
        simp only [Act.put, lS_, lZ_, lC_, i64_w, i32_w]
        rfl
       refine one_ (i := 4) (N := some 28) #[true, true, true, true, true, false, false] rfl rfl (by kernel_rfl) (by decide) (fun K hK => ?_)
       refine goes_ Try.func38 (by kernel_rfl) rfl #[.agg #[.int .i64 a0_0, .int .i64 a0_1]] (by rfl) rfl rfl (by (try simp only [List.map_toArray, List.map_cons, List.map_nil]); first | done | rfl | (simp only [List.length_drop, List.length_take]; rfl)) ?_
       with_reducible refine (vernierref17_Form_exps.calls a0_0 a0_1 t456 _ A8.out).mono ?_
       rintro e w30 ⟨rfl, hb⟩
       refine ⟨_, rfl, ?_⟩
       have n0_ := Aside0.mk (bB3 BK453.out hb)
       have n1_ := Aside0.mk (bS3 HB.out hb)
       clear BK453
       clear HB
       have BK453 := n0_
       have HB := n1_
       clear n0_ n1_
       (try clear hb)
       (try clear hb2)
       (try clear hk)
       (try clear hi)
       refine hK.out _ _ ⟨(blk_cell BK453.out 0).trans rfl, (blk_cell BK453.out 1).trans rfl⟩ (fun hHeld => ?_)
       clear hK K
       refine norm_ (a' := ?_) ?_ ?_
       rotate_left
       ·
        show Act.put _ (some 28) _ = _
        simp only [Act.put, lS_, lZ_, lC_, i64_w, i32_w]
        rfl
       refine pure_ (i := 5) (N := some 29) (v := ?_) (a' := ?_) #[true, true, true, true, true, true, false] rfl rfl (by kernel_rfl) (fun _ _ _ h => h) (Or.inl ⟨by rfl, ?_⟩) ?_ ?_
       rotate_left
       ·
        intro w'
        go_simp
        with_reducible rfl
       rotate_left
       ·
        simp only [Act.put, lS_, lZ_, lC_, i64_w, i32_w]
        rfl
       refine pure_ (i := 6) (N := some 11) (v := ?_) (a' := ?_) #[true, true, true, true, true, true, true] rfl rfl (by kernel_rfl) (fun _ _ _ h => h) (Or.inl ⟨by rfl, ?_⟩) ?_ ?_
       rotate_left
       ·
        intro w'
        go_simp
        with_reducible rfl
       rotate_left
       ·
        simp only [Act.put, lS_, lZ_, lC_, i64_w, i32_w]
        rfl
       refine done_ (by kernel_rfl) ?_
       try go_wp2
       have n0_ := Aside0.mk (bD BK453.out)
       have n1_ := Aside0.mk (p1 HB.out)
       clear BK453
       clear HB
       have BK453 := n0_
       have HB := n1_
       clear n0_ n1_
       refine start_ (n := 9) (S := fun w' => w'.cell? ⟨gb453, 0, none⟩ = some (.int .i64 a0_0) ∧ w'.cell? ⟨gb453, 1, none⟩ = some (.int .i64 a0_1)) (ds := []) #[false, false, false, false, false, false, false, false, false] (by kernel_rfl) rfl rfl ⟨(blk_cell BK453.out 0).trans rfl, (blk_cell BK453.out 1).trans rfl⟩ (fun hHeld => ?_); refine with_tabW vernierref17_Form_From.tab7 vernierref17_Form_From.bits7 (fun HT_ HW_ => ?_)
       generalize w30.drew = w31 at BK453 HB hHeld ⊢
       refine pure_ (i := 0) (N := some 30) (v := ?_) (a' := ?_) #[true, false, false, false, false, false, false, false, false] rfl rfl (any_of HT_.out (by kernel_rfl)) (fun _ _ _ h => h) (Or.inl ⟨by rfl, ?_⟩) ?_ ?_
       rotate_left
       ·
        intro w'
        go_simp
        with_reducible rfl
       rotate_left
       ·
        simp only [Act.put, lS_, lZ_, lC_, i64_w, i32_w]
        rfl
       refine pure_ (i := 1) (N := some 31) (v := ?_) (a' := ?_) #[true, true, false, false, false, false, false, false, false] rfl rfl (any_of HT_.out (by kernel_rfl)) (fun _ _ _ h => h) (Or.inl ⟨by rfl, ?_⟩) ?_ ?_
       rotate_left
       ·
        intro w'
        go_simp
        with_reducible rfl
       rotate_left
       ·
        simp only [Act.put, lS_, lZ_, lC_, i64_w, i32_w]
        rfl
       refine pure_ (i := 2) (N := some 32) (v := ?_) (a' := ?_) #[true, true, true, false, false, false, false, false, false] rfl rfl (any_of HT_.out (by kernel_rfl)) (fun _ _ _ h => h) (Or.inl ⟨by rfl, ?_⟩) ?_ ?_
       rotate_left
       ·
        intro w'
        go_simp
        with_reducible rfl
       rotate_left
       ·
        simp only [Act.put, lS_, lZ_, lC_, i64_w, i32_w]
        rfl
       refine take_ (i := 3) (N := some 33) (v := ?_) (a' := ?_) #[true, true, true, true, false, false, false, false, false] rfl rfl (take_ofW HT_.out HW_.out (by kernel_rfl)) (fun _ _ _ h => h) (Or.inl ⟨by rfl, ?_⟩) hHeld ?_ ?_
       rotate_left
       ·
        rintro w' ⟨s0, s1⟩
        go_simp
        with_reducible rfl
       rotate_left
       ·
        simp only [Act.put, lS_, lZ_, lC_, i64_w, i32_w]
        rfl
       refine one_ (i := 4) (N := some 34) #[true, true, true, true, true, false, false, false, false] rfl rfl (one_of HT_.out (by kernel_rfl)) (by decide) (fun K hK => ?_)
       refine goes_ Try.func38 (by kernel_rfl) rfl #[.agg #[.int .i64 a0_0, .int .i64 a0_1]] (by rfl) rfl rfl (by (try simp only [List.map_toArray, List.map_cons, List.map_nil]); first | done | rfl | (simp only [List.length_drop, List.length_take]; rfl)) ?_
       with_reducible refine (vernierref17_Form_exps.calls a0_0 a0_1 t457 _ A10.out).mono ?_
       rintro e w32 ⟨rfl, hb⟩
       refine ⟨_, rfl, ?_⟩
       have n0_ := Aside0.mk (bB3 BK453.out hb)
       have n1_ := Aside0.mk (bS3 HB.out hb)
       clear BK453
       clear HB
       have BK453 := n0_
       have HB := n1_
       clear n0_ n1_
       (try clear hb)
       (try clear hb2)
       (try clear hk)
       (try clear hi)
       refine hK.out _ _ ⟨(blk_cell BK453.out 0).trans rfl, (blk_cell BK453.out 1).trans rfl⟩ (fun hHeld => ?_)
       clear hK K
       refine norm_ (a' := ?_) ?_ ?_
       rotate_left
       ·
        show Act.put _ (some 34) _ = _
        simp only [Act.put, lS_, lZ_, lC_, i64_w, i32_w]
        rfl
       refine pure_ (i := 5) (N := some 35) (v := ?_) (a' := ?_) #[true, true, true, true, true, true, false, false, false] rfl rfl (any_of HT_.out (by kernel_rfl)) (fun _ _ _ h => h) (Or.inl ⟨by rfl, ?_⟩) ?_ ?_
       rotate_left
       ·
        intro w'
        go_simp
        with_reducible rfl
       rotate_left
       ·
        simp only [Act.put, lS_, lZ_, lC_, i64_w, i32_w]
        rfl
       refine pure_ (i := 6) (N := some 36) (v := ?_) (a' := ?_) #[true, true, true, true, true, true, true, false, false] rfl rfl (any_of HT_.out (by kernel_rfl)) (fun _ _ _ h => h) (Or.inl ⟨by rfl, ?_⟩) ?_ ?_
       rotate_left
       ·
        intro w'
        go_simp
        with_reducible rfl
       rotate_left
       ·
        simp only [Act.put, lS_, lZ_, lC_, i64_w, i32_w]
        rfl
       refine pure_ (i := 7) (N := some 37) (v := ?_) (a' := ?_) #[true, true, true, true, true, true, true, true, false] rfl rfl (any_of HT_.out (by kernel_rfl)) (fun _ _ _ h => h) (Or.inl ⟨by rfl, ?_⟩) ?_ ?_
       rotate_left
       ·
        intro w'
        go_simp
        with_reducible rfl
       rotate_left
       ·
        simp only [Act.put, lS_, lZ_, lC_, i64_w, i32_w]
        rfl
       refine pure_ (i := 8) (N := some 12) (v := ?_) (a' := ?_) #[true, true, true, true, true, true, true, true, true] rfl rfl (any_of HT_.out (by kernel_rfl)) (fun _ _ _ h => h) (Or.inl ⟨by rfl, ?_⟩) ?_ ?_
       rotate_left
       ·
        intro w'
        go_simp
        with_reducible rfl
       rotate_left
       ·
        simp only [Act.put, lS_, lZ_, lC_, i64_w, i32_w]
        rfl
       refine done_ (done_of HT_.out (by kernel_rfl)) ?_
       obtain ⟨hcz33_0, hcz33_1, hfz33_0, hfz33_1⟩ := cl2 BK453.out
       try go_wp2_with (first | ((with_reducible refine gX_ 38 40 rfl rfl ?_); refine goesY_ (some 40) Try.func38 #[.agg #[.int .i64 a0_0, .int .i64 a0_1]] ?_; (with_reducible refine (vernierref17_Form_exps.calls a0_0 a0_1 t458 _ A12.out).mono ?_); rintro e w34 ⟨rfl, hb⟩; refine ⟨_, rfl, ?_⟩; replace BK453 := Aside0.mk (bB3 BK453.out hb); replace HB := Aside0.mk (bS3 HB.out hb); (try clear hb); (try clear hk)))
       have n0_ := Aside0.mk (bD BK453.out)
       have n1_ := Aside0.mk (p1 HB.out)
       clear BK453
       clear HB
       have BK453 := n0_
       have HB := n1_
       clear n0_ n1_
       refine start_ (n := 11) (S := fun w' => w'.cell? ⟨gb453, 0, none⟩ = some (.int .i64 a0_0) ∧ w'.cell? ⟨gb453, 1, none⟩ = some (.int .i64 a0_1)) (ds := []) #[false, false, false, false, false, false, false, false, false, false, false] (by kernel_rfl) rfl rfl ⟨(blk_cell BK453.out 0).trans rfl, (blk_cell BK453.out 1).trans rfl⟩ (fun hHeld => ?_); refine with_tabW vernierref17_Form_From.tab13 vernierref17_Form_From.bits13 (fun HT_ HW_ => ?_)
       generalize w34.drew = w35 at BK453 HB hHeld ⊢
       refine pure_ (i := 0) (N := some 53) (v := ?_) (a' := ?_) #[true, false, false, false, false, false, false, false, false, false, false] rfl rfl (any_of HT_.out (by kernel_rfl)) (fun _ _ _ h => h) (Or.inl ⟨by rfl, ?_⟩) ?_ ?_
       rotate_left
       ·
        intro w'
        go_simp
        with_reducible rfl
       rotate_left
       ·
        simp only [Act.put, lS_, lZ_, lC_, i64_w, i32_w]
        rfl
       refine pure_ (i := 1) (N := some 54) (v := ?_) (a' := ?_) #[true, true, false, false, false, false, false, false, false, false, false] rfl rfl (any_of HT_.out (by kernel_rfl)) (fun _ _ _ h => h) (Or.inl ⟨by rfl, ?_⟩) ?_ ?_
       rotate_left
       ·
        intro w'
        go_simp
        with_reducible rfl
       rotate_left
       ·
        simp only [Act.put, lS_, lZ_, lC_, i64_w, i32_w]
        rfl
       refine pure_ (i := 3) (N := some 56) (v := ?_) (a' := ?_) #[true, true, false, true, false, false, false, false, false, false, false] rfl rfl (any_of HT_.out (by kernel_rfl)) (fun _ _ _ h => h) (Or.inl ⟨by rfl, ?_⟩) ?_ ?_
       rotate_left
       ·
        intro w'
        go_simp
        with_reducible rfl
       rotate_left
       ·
        simp only [Act.put, lS_, lZ_, lC_, i64_w, i32_w]
        rfl
       refine pure_ (i := 5) (N := some 58) (v := ?_) (a' := ?_) #[true, true, false, true, false, true, false, false, false, false, false] rfl rfl (any_of HT_.out (by kernel_rfl)) (fun _ _ _ h => h) (Or.inl ⟨by rfl, ?_⟩) ?_ ?_
       rotate_left
       ·
        intro w'
        go_simp
        with_reducible rfl
       rotate_left
       ·
        simp only [Act.put, lS_, lZ_, lC_, i64_w, i32_w]
        rfl
       refine pure_ (i := 6) (N := some 59) (v := ?_) (a' := ?_) #[true, true, false, true, false, true, true, false, false, false, false] rfl rfl (any_of HT_.out (by kernel_rfl)) (fun _ _ _ h => h) (Or.inl ⟨by rfl, ?_⟩) ?_ ?_
       rotate_left
       ·
        intro w'
        go_simp
        with_reducible rfl
       rotate_left
       ·
        simp only [Act.put, lS_, lZ_, lC_, i64_w, i32_w]
        rfl
       refine take_ (i := 4) (N := some 57) (v := ?_) (a' := ?_) #[true, true, false, true, true, true, true, false, false, false, false] rfl rfl (take_ofW HT_.out HW_.out (by kernel_rfl)) (fun _ _ _ h => h) (Or.inl ⟨by rfl, ?_⟩) hHeld ?_ ?_
       rotate_left
       ·
        rintro w' ⟨s0, s1⟩
        go_simp
        with_reducible rfl
       rotate_left
       ·
        simp only [Act.put, lS_, lZ_, lC_, i64_w, i32_w]
        rfl
       refine pure_ (i := 7) (N := some 60) (v := ?_) (a' := ?_) #[true, true, false, true, true, true, true, true, false, false, false] rfl rfl (any_of HT_.out (by kernel_rfl)) (fun _ _ _ h => h) (Or.inl ⟨by rfl, ?_⟩) ?_ ?_
       rotate_left
       ·
        intro w'
        go_simp
        with_reducible rfl
       rotate_left
       ·
        simp only [Act.put, lS_, lZ_, lC_, i64_w, i32_w]
        rfl
       refine join_ (σ := Value × Nat) 1 #[true, true, true, true, true, true, true, true, true, true, false] (fun s_ => [(55, s_.1), (61, .agg #[.int .i64 t463, .bool t464, .int .i64 t465, .int .u64 t466, .int .u64 t467, .bool t468]), (13, .pointer (some ⟨s_.2, 0, none⟩))]) (fun s_ w' => (w'.cell? ⟨gb453, 0, none⟩ = some (.int .i64 a0_0) ∧ w'.cell? ⟨gb453, 1, none⟩ = some (.int .i64 a0_1)) ∧ (w'.heap[gb453]? = some (.cells #[.int .i64 a0_0, .int .i64 a0_1] 32 (0, 0))) ∧ (w'.heap[s_.2]? = some (.cells #[.int .i64 0, .bool false, .int .i64 0, .int .u64 0, .int .u64 0, .bool false] 61 (0, 0))) ∧ (w.heap.size ≤ s_.2) ∧ (w.heap.size ≤ s_.2) ∧ (gb453 ≠ s_.2) ∧ (s_.2 ≠ gb453) ∧ (Below w.heap.size w w')) ?_ ?_
       rotate_left
       ·
        intro hCont
        refine two_ (i := 2) (j := 9) (Ni := some 55) (Nj := some 13) #[true, true, true, true, true, true, true, true, false, false, false] #[true, true, false, true, true, true, true, true, false, true, false] rfl rfl rfl rfl (two_of HT_.out (by kernel_rfl)) (by decide) (by decide) (fun K hK => ?_) (fun K hK => ?_)
        ·
         skip
         refine goes_ Try.func41 (by kernel_rfl) rfl #[.int .u64 (IntKind.u64.wrap ((Int.tmod a2 t455) + t455))] (by rfl) rfl rfl (by (try simp only [List.map_toArray, List.map_cons, List.map_nil]); first | done | rfl | (simp only [List.length_drop, List.length_take]; rfl)) ?_
         with_reducible refine (vernierref04_Of.calls k (IntKind.u64.wrap ((Int.tmod a2 t455) + t455)) t460 _ A24.out).mono ?_
         rintro e w36 ⟨v461, rfl, ho0, hb⟩
         refine ⟨_, rfl, ?_⟩
         have n0_ := Aside0.mk (Kd.R_lower ho0 (bZ (bR3 HB.out)))
         have n1_ := Aside0.mk (bB3 BK453.out hb)
         have n2_ := Aside0.mk (bS3 HB.out hb)
         clear BK453
         clear HB
         have HO462 := n0_
         have BK453 := n1_
         have HB := n2_
         clear n0_ n1_ n2_
         (try clear hb)
         (try clear hb2)
         (try clear hk)
         (try clear hi)
         (try clear ho0)
         obtain ⟨Ao37, co37, eo37⟩ := Kd.R_slice HO462.out
         (first | subst eo37 | (injection eo37 with f1_ f2_ f3_; have f4_ := f1_.symm; have f5_ := f3_.symm; clear f1_ f2_ f3_; subst f4_; subst f5_))
         refine hK.out _ _ ⟨(blk_cell BK453.out 0).trans rfl, (blk_cell BK453.out 1).trans rfl⟩ (fun hHeld => ?_)
         clear hK K
         refine norm_ (a' := ?_) ?_ ?_
         rotate_left
         ·
          show Act.put _ (some 55) _ = _
          simp only [Act.put, lS_, lZ_, lC_, i64_w, i32_w]
          rfl
         refine two_ (i := 8) (j := 9) (Ni := some 61) (Nj := some 13) #[true, true, true, true, true, true, true, true, true, false, false] #[true, true, true, true, true, true, true, true, false, true, false] rfl rfl rfl rfl (two_of HT_.out (by kernel_rfl)) (by decide) (by decide) (fun K hK => ?_) (fun K hK => ?_)
         ·
          skip
          refine goes_ Try.func40 (by kernel_rfl) rfl #[.bool ((Int.tmod (IntKind.u64.wrap (Int.tdiv (IntKind.u64.wrap (Int.tdiv a2 t455)) t457)) 2) == 1), .slice Ao37 t460.length co37, .int .i64 (wrap64 (a0_1 + (wrap64 (IntKind.u64.wrap ((Int.tmod (IntKind.u64.wrap (Int.tdiv a2 t455)) t456) - 1))))), .bool false] (by rfl) rfl rfl (by (try simp only [List.map_toArray, List.map_cons, List.map_nil]); first | done | rfl | (simp only [List.length_drop, List.length_take]; rfl)) ?_
          with_reducible refine (vernierref07_Exactly.calls k ((Int.tmod (IntKind.u64.wrap (Int.tdiv (IntKind.u64.wrap (Int.tdiv a2 t455)) t457)) 2) == 1) (fun k_ => some k_ = (.slice Ao37 t460.length co37 : Value).ownBlock) (.slice Ao37 t460.length co37) t460 (wrap64 (a0_1 + (wrap64 (IntKind.u64.wrap ((Int.tmod (IntKind.u64.wrap (Int.tdiv a2 t455)) t456) - 1))))) false t463 t464 t465 t466 t467 t468 w _ ?side1 ?side2 A25.out).mono ?_
          (case side1 => repeat (first | (with_reducible first | exact HB.out | apply pA | apply pN | apply p1 | refine pS ?_ GE453.out) | exact HB.out))
          (case side2 => exact Kd.R_tight rfl HO462.out)
          rintro e w38 ⟨rfl, hb, hkp⟩
          refine ⟨_, rfl, ?_⟩
          have n0_ := Aside0.mk (blk_kept (bK3 BK453.out) hkp (fun hs_ => (fun e_ => (Kd.R_ne HO462.out BK453.out (by decide)) e_) hs_))
          have n1_ := Aside0.mk (hb)
          clear BK453
          clear HB
          clear HO462
          have BK453 := n0_
          have HB := n1_
          clear n0_ n1_
          (try clear hb)
          (try clear hkp)
          refine hK.out _ _ ⟨(blk_cell BK453.out 0).trans rfl, (blk_cell BK453.out 1).trans rfl⟩ (fun hHeld => ?_)
          clear hK K
          refine norm_ (a' := ?_) ?_ ?_
          rotate_left
          ·
           show Act.put _ (some 61) _ = _
           simp only [Act.put, lS_, lZ_, lC_, i64_w, i32_w]
           rfl
          refine one_ (i := 9) (N := some 13) #[true, true, true, true, true, true, true, true, true, true, false] rfl rfl (one_of HT_.out (by kernel_rfl)) (by decide) (fun K hK => ?_)
          refine box_step ?hg (N := 13) ?hd (cs := #[.int .i64 0, .bool false, .int .i64 0, .int .u64 0, .int .u64 0, .bool false]) (t := 61) ?hr ?_; (case hd => rfl); (case hg => rfl); (case hr => first | (go_simp; done) | (go_simp; rfl))
          intro gb469 hg w39 hbox hb
          have n0_ := Aside0.mk (bB3 BK453.out hb)
          have n1_ := Aside0.mk (bS3 HB.out hb)
          have n2_ := Aside0.mk (hbox)
          have n3_ := Aside0.mk ((bZ3 hg HB.out))
          have n4_ := Aside0.mk ((bZ3 hg HB.out))
          have n5_ := Aside0.mk ((bL3 hg BK453.out))
          have n6_ := Aside0.mk ((bG3 hg BK453.out))
          clear BK453
          clear HB
          have BK453 := n0_
          have HB := n1_
          have BK469 := n2_
          have GW469 := n3_
          have GE469 := n4_
          have NB453_469 := n5_
          have NB469_453 := n6_
          clear n0_ n1_ n2_ n3_ n4_ n5_ n6_
          clear hb hbox hg
          refine hK.out _ _ ⟨(blk_cell BK453.out 0).trans rfl, (blk_cell BK453.out 1).trans rfl⟩ (fun hHeld => ?_)
          clear hK K
          refine norm_ (a' := ?_) ?_ ?_
          rotate_left
          ·
           show Act.put _ (some 13) _ = _
           simp only [Act.put, lS_, lZ_, lC_, i64_w, i32_w]
           rfl
          exact norm_ (by simp only [putAll, Act.put, lS_, lZ_, lC_]) (hCont (.slice Ao37 t460.length co37, gb469) _ ⟨hHeld, (bK3 BK453.out), (bK3 BK469.out), GW469.out, GE469.out, NB453_469.out, NB469_453.out, (bR3 HB.out)⟩)
         ·
          skip
          refine box_step ?hg (N := 13) ?hd (cs := #[.int .i64 0, .bool false, .int .i64 0, .int .u64 0, .int .u64 0, .bool false]) (t := 61) ?hr ?_; (case hd => rfl); (case hg => rfl); (case hr => first | (go_simp; done) | (go_simp; rfl))
          intro gb469 hg w37 hbox hb
          have n0_ := Aside0.mk (Kd.R_below (by (with_reducible repeat (first | apply Kd.R_alloc | apply Kd.R_drewN | apply Kd.R_drew)); exact HO462.out) hb)
          have n1_ := Aside0.mk (bB3 BK453.out hb)
          have n2_ := Aside0.mk (bS3 HB.out hb)
          have n3_ := Aside0.mk (hbox)
          have n4_ := Aside0.mk ((bZ3 hg HB.out))
          have n5_ := Aside0.mk ((bZ3 hg HB.out))
          have n6_ := Aside0.mk ((bL3 hg BK453.out))
          have n7_ := Aside0.mk ((bG3 hg BK453.out))
          clear HO462
          clear BK453
          clear HB
          have HO462 := n0_
          have BK453 := n1_
          have HB := n2_
          have BK469 := n3_
          have GW469 := n4_
          have GE469 := n5_
          have NB453_469 := n6_
          have NB469_453 := n7_
          clear n0_ n1_ n2_ n3_ n4_ n5_ n6_ n7_
          clear hb hbox hg
          obtain ⟨Ao38, co38, eo38⟩ := Kd.R_slice HO462.out
          (first | subst eo38 | (injection eo38 with f1_ f2_ f3_; have f4_ := f1_.symm; have f5_ := f3_.symm; clear f1_ f2_ f3_; subst f4_; subst f5_))
          refine hK.out _ _ ⟨(blk_cell BK453.out 0).trans rfl, (blk_cell BK453.out 1).trans rfl⟩ (fun hHeld => ?_)
          clear hK K
          refine norm_ (a' := ?_) ?_ ?_
          rotate_left
          ·
           show Act.put _ (some 13) _ = _
           simp only [Act.put, lS_, lZ_, lC_, i64_w, i32_w]
           rfl
          refine one_ (i := 8) (N := some 61) #[true, true, true, true, true, true, true, true, true, true, false] rfl rfl (one_of HT_.out (by kernel_rfl)) (by decide) (fun K hK => ?_)
          refine goes_ Try.func40 (by kernel_rfl) rfl #[.bool ((Int.tmod (IntKind.u64.wrap (Int.tdiv (IntKind.u64.wrap (Int.tdiv a2 t455)) t457)) 2) == 1), .slice Ao38 t460.length co38, .int .i64 (wrap64 (a0_1 + (wrap64 (IntKind.u64.wrap ((Int.tmod (IntKind.u64.wrap (Int.tdiv a2 t455)) t456) - 1))))), .bool false] (by rfl) rfl rfl (by (try simp only [List.map_toArray, List.map_cons, List.map_nil]); first | done | rfl | (simp only [List.length_drop, List.length_take]; rfl)) ?_
          with_reducible refine (vernierref07_Exactly.calls k ((Int.tmod (IntKind.u64.wrap (Int.tdiv (IntKind.u64.wrap (Int.tdiv a2 t455)) t457)) 2) == 1) (fun k_ => some k_ = (.slice Ao38 t460.length co38 : Value).ownBlock) (.slice Ao38 t460.length co38) t460 (wrap64 (a0_1 + (wrap64 (IntKind.u64.wrap ((Int.tmod (IntKind.u64.wrap (Int.tdiv a2 t455)) t456) - 1))))) false t463 t464 t465 t466 t467 t468 w _ ?side1 ?side2 A25.out).mono ?_
          (case side1 => repeat (first | (with_reducible first | exact HB.out | apply pA | apply pN | apply p1 | refine pS ?_ GE453.out | refine pS ?_ GE469.out) | exact HB.out))
          (case side2 => exact Kd.R_tight rfl HO462.out)
          rintro e w39 ⟨rfl, hb, hkp⟩
          refine ⟨_, rfl, ?_⟩
          have n0_ := Aside0.mk (blk_kept (bK3 BK453.out) hkp (fun hs_ => (fun e_ => (Kd.R_ne HO462.out BK453.out (by decide)) e_) hs_))
          have n1_ := Aside0.mk (blk_kept (bK3 BK469.out) hkp (fun hs_ => (fun e_ => (Kd.R_ne HO462.out BK469.out (by decide)) e_) hs_))
          have n2_ := Aside0.mk (hb)
          clear BK453
          clear BK469
          clear HB
          clear HO462
          have BK453 := n0_
          have BK469 := n1_
          have HB := n2_
          clear n0_ n1_ n2_
          (try clear hb)
          (try clear hkp)
          refine hK.out _ _ ⟨(blk_cell BK453.out 0).trans rfl, (blk_cell BK453.out 1).trans rfl⟩ (fun hHeld => ?_)
          clear hK K
          refine norm_ (a' := ?_) ?_ ?_
          rotate_left
          ·
           show Act.put _ (some 61) _ = _
           simp only [Act.put, lS_, lZ_, lC_, i64_w, i32_w]
           rfl
          exact norm_ (by simp only [putAll, Act.put, lS_, lZ_, lC_]) (hCont (.slice Ao38 t460.length co38, gb469) _ ⟨hHeld, (bK3 BK453.out), (bK3 BK469.out), GW469.out, GE469.out, NB453_469.out, NB469_453.out, (bR3 HB.out)⟩)
        ·
         skip
         refine box_step ?hg (N := 13) ?hd (cs := #[.int .i64 0, .bool false, .int .i64 0, .int .u64 0, .int .u64 0, .bool false]) (t := 61) ?hr ?_; (case hd => rfl); (case hg => rfl); (case hr => first | (go_simp; done) | (go_simp; rfl))
         intro gb469 hg w36 hbox hb
         have n0_ := Aside0.mk (bB3 BK453.out hb)
         have n1_ := Aside0.mk (bS3 HB.out hb)
         have n2_ := Aside0.mk (hbox)
         have n3_ := Aside0.mk ((bZ3 hg HB.out))
         have n4_ := Aside0.mk ((bZ3 hg HB.out))
         have n5_ := Aside0.mk ((bL3 hg BK453.out))
         have n6_ := Aside0.mk ((bG3 hg BK453.out))
         clear BK453
         clear HB
         have BK453 := n0_
         have HB := n1_
         have BK469 := n2_
         have GW469 := n3_
         have GE469 := n4_
         have NB453_469 := n5_
         have NB469_453 := n6_
         clear n0_ n1_ n2_ n3_ n4_ n5_ n6_
         clear hb hbox hg
         refine hK.out _ _ ⟨(blk_cell BK453.out 0).trans rfl, (blk_cell BK453.out 1).trans rfl⟩ (fun hHeld => ?_)
         clear hK K
         refine norm_ (a' := ?_) ?_ ?_
         rotate_left
         ·
          show Act.put _ (some 13) _ = _
          simp only [Act.put, lS_, lZ_, lC_, i64_w, i32_w]
          rfl
         refine one_ (i := 2) (N := some 55) #[true, true, true, true, true, true, true, true, false, true, false] rfl rfl (one_of HT_.out (by kernel_rfl)) (by decide) (fun K hK => ?_)
         refine goes_ Try.func41 (by kernel_rfl) rfl #[.int .u64 (IntKind.u64.wrap ((Int.tmod a2 t455) + t455))] (by rfl) rfl rfl (by (try simp only [List.map_toArray, List.map_cons, List.map_nil]); first | done | rfl | (simp only [List.length_drop, List.length_take]; rfl)) ?_
         with_reducible refine (vernierref04_Of.calls k (IntKind.u64.wrap ((Int.tmod a2 t455) + t455)) t460 _ A24.out).mono ?_
         rintro e w37 ⟨v461, rfl, ho0, hb⟩
         refine ⟨_, rfl, ?_⟩
         have n0_ := Aside0.mk (Kd.R_lower ho0 (bZ (bR3 HB.out)))
         have n1_ := Aside0.mk (bB3 BK453.out hb)
         have n2_ := Aside0.mk (bB3 BK469.out hb)
         have n3_ := Aside0.mk (bS3 HB.out hb)
         clear BK453
         clear BK469
         clear HB
         have HO462 := n0_
         have BK453 := n1_
         have BK469 := n2_
         have HB := n3_
         clear n0_ n1_ n2_ n3_
         (try clear hb)
         (try clear hb2)
         (try clear hk)
         (try clear hi)
         (try clear ho0)
         obtain ⟨Ao38, co38, eo38⟩ := Kd.R_slice HO462.out
         (first | subst eo38 | (injection eo38 with f1_ f2_ f3_; have f4_ := f1_.symm; have f5_ := f3_.symm; clear f1_ f2_ f3_; subst f4_; subst f5_))
         refine hK.out _ _ ⟨(blk_cell BK453.out 0).trans rfl, (blk_cell BK453.out 1).trans rfl⟩ (fun hHeld => ?_)
         clear hK K
         refine norm_ (a' := ?_) ?_ ?_
         rotate_left
         ·
          show Act.put _ (some 55) _ = _
          simp only [Act.put, lS_, lZ_, lC_, i64_w, i32_w]
          rfl
         refine one_ (i := 8) (N := some 61) #[true, true, true, true, true, true, true, true, true, true, false] rfl rfl (one_of HT_.out (by kernel_rfl)) (by decide) (fun K hK => ?_)
         refine goes_ Try.func40 (by kernel_rfl) rfl #[.bool ((Int.tmod (IntKind.u64.wrap (Int.tdiv (IntKind.u64.wrap (Int.tdiv a2 t455)) t457)) 2) == 1), .slice Ao38 t460.length co38, .int .i64 (wrap64 (a0_1 + (wrap64 (IntKind.u64.wrap ((Int.tmod (IntKind.u64.wrap (Int.tdiv a2 t455)) t456) - 1))))), .bool false] (by rfl) rfl rfl (by (try simp only [List.map_toArray, List.map_cons, List.map_nil]); first | done | rfl | (simp only [List.length_drop, List.length_take]; rfl)) ?_
         with_reducible refine (vernierref07_Exactly.calls k ((Int.tmod (IntKind.u64.wrap (Int.tdiv (IntKind.u64.wrap (Int.tdiv a2 t455)) t457)) 2) == 1) (fun k_ => some k_ = (.slice Ao38 t460.length co38 : Value).ownBlock) (.slice Ao38 t460.length co38) t460 (wrap64 (a0_1 + (wrap64 (IntKind.u64.wrap ((Int.tmod (IntKind.u64.wrap (Int.tdiv a2 t455)) t456) - 1))))) false t463 t464 t465 t466 t467 t468 w _ ?side1 ?side2 A25.out).mono ?_
         (case side1 => repeat (first | (with_reducible first | exact HB.out | apply pA | apply pN | apply p1 | refine pS ?_ GE453.out | refine pS ?_ GE469.out) | exact HB.out))
         (case side2 => exact Kd.R_tight rfl HO462.out)
         rintro e w39 ⟨rfl, hb, hkp⟩
         refine ⟨_, rfl, ?_⟩
         have n0_ := Aside0.mk (blk_kept (bK3 BK453.out) hkp (fun hs_ => (fun e_ => (Kd.R_ne HO462.out BK453.out (by decide)) e_) hs_))
         have n1_ := Aside0.mk (blk_kept (bK3 BK469.out) hkp (fun hs_ => (fun e_ => (Kd.R_ne HO462.out BK469.out (by decide)) e_) hs_))
         have n2_ := Aside0.mk (hb)
         clear BK453
         clear BK469
         clear HB
         clear HO462
         have BK453 := n0_
         have BK469 := n1_
         have HB := n2_
         clear n0_ n1_ n2_
         (try clear hb)
         (try clear hkp)
         refine hK.out _ _ ⟨(blk_cell BK453.out 0).trans rfl, (blk_cell BK453.out 1).trans rfl⟩ (fun hHeld => ?_)
         clear hK K
         refine norm_ (a' := ?_) ?_ ?_
         rotate_left
         ·
          show Act.put _ (some 61) _ = _
          simp only [Act.put, lS_, lZ_, lC_, i64_w, i32_w]
          rfl
         exact norm_ (by simp only [putAll, Act.put, lS_, lZ_, lC_]) (hCont (.slice Ao38 t460.length co38, gb469) _ ⟨hHeld, (bK3 BK453.out), (bK3 BK469.out), GW469.out, GE469.out, NB453_469.out, NB469_453.out, (bR3 HB.out)⟩)
       rintro ⟨v461, gb469⟩ w40 ⟨hS_, h0_, h1_, h2_, h3_, h4_, h5_, h6_⟩
       have n0_ : Aside0 (w40.heap[gb453]? = some (.cells #[.int .i64 a0_0, .int .i64 a0_1] 32 (0, 0))) := ⟨h0_⟩
       have n1_ : Aside0 (w40.heap[gb469]? = some (.cells #[.int .i64 0, .bool false, .int .i64 0, .int .u64 0, .int .u64 0, .bool false] 61 (0, 0))) := ⟨h1_⟩
       have n2_ : Aside0 (w.heap.size ≤ gb469) := ⟨h2_⟩
       have n3_ : Aside0 (w.heap.size ≤ gb469) := ⟨h3_⟩
       have n4_ : Aside0 (gb453 ≠ gb469) := ⟨h4_⟩
       have n5_ : Aside0 (gb469 ≠ gb453) := ⟨h5_⟩
       have n6_ : Aside0 (Below w.heap.size w w40) := ⟨h6_⟩
       clear BK453
       clear HB
       clear h0_ h1_ h2_ h3_ h4_ h5_ h6_
       have BK453 := n0_
       have BK469 := n1_
       have GW469 := n2_
       have GE469 := n3_
       have NB453_469 := n4_
       have NB469_453 := n5_
       have HB := n6_
       clear n0_ n1_ n2_ n3_ n4_ n5_ n6_
       have hHeld : w40.cell? ⟨gb453, 0, none⟩ = some (.int .i64 a0_0) ∧ w40.cell? ⟨gb453, 1, none⟩ = some (.int .i64 a0_1) := hS_
       refine norm_ (a' := ?_) ?_ ?_
       rotate_left
       ·
        simp only [putAll, Act.put, lS_, lZ_, lC_]
        rfl
       refine one_ (i := 10) (N := none) #[true, true, true, true, true, true, true, true, true, true, true] rfl rfl (one_of HT_.out (by kernel_rfl)) (by decide) (fun K hK => ?_)
       have hs41 : w40.cell? ⟨gb469, 0, none⟩ = some (.int .i64 0) := (blk_cell BK469.out 0).trans rfl
       have hfs41 := blk_frozen BK469.out 0
       have hns41_0 := NB453_469.out
       have hms41_0 := NB469_453.out
       have hs42 : w40.cell? ⟨gb469, 1, none⟩ = some (.bool false) := (blk_cell BK469.out 1).trans rfl
       have hfs42 := blk_frozen BK469.out 1
       have hns42_0 := NB453_469.out
       have hms42_0 := NB469_453.out
       have hs43 : w40.cell? ⟨gb469, 2, none⟩ = some (.int .i64 0) := (blk_cell BK469.out 2).trans rfl
       have hfs43 := blk_frozen BK469.out 2
       have hns43_0 := NB453_469.out
       have hms43_0 := NB469_453.out
       have hs44 : w40.cell? ⟨gb469, 3, none⟩ = some (.int .u64 0) := (blk_cell BK469.out 3).trans rfl
       have hfs44 := blk_frozen BK469.out 3
       have hns44_0 := NB453_469.out
       have hms44_0 := NB469_453.out
       have hs45 : w40.cell? ⟨gb469, 4, none⟩ = some (.int .u64 0) := (blk_cell BK469.out 4).trans rfl
       have hfs45 := blk_frozen BK469.out 4
       have hns45_0 := NB453_469.out
       have hms45_0 := NB469_453.out
       have hs46 : w40.cell? ⟨gb469, 5, none⟩ = some (.bool false) := (blk_cell BK469.out 5).trans rfl
       have hfs46 := blk_frozen BK469.out 5
       have hns46_0 := NB453_469.out
       have hms46_0 := NB469_453.out
       refine skip_ (w1 := ?_) (by rfl) rfl ?_ ?_
       rotate_left
       ·
        go_simp
        rfl
       refine hK.out _ _ ⟨((cell_far (p := ⟨gb469, _, none⟩) NB453_469.out _).trans (((cell_far (p := ⟨gb469, _, none⟩) NB453_469.out _).trans (((cell_far (p := ⟨gb469, _, none⟩) NB453_469.out _).trans (((cell_far (p := ⟨gb469, _, none⟩) NB453_469.out _).trans (((cell_far (p := ⟨gb469, _, none⟩) NB453_469.out _).trans (((cell_far (p := ⟨gb469, _, none⟩) NB453_469.out _).trans (hHeld.1)))))))))))), ((cell_far (p := ⟨gb469, _, none⟩) NB453_469.out _).trans (((cell_far (p := ⟨gb469, _, none⟩) NB453_469.out _).trans (((cell_far (p := ⟨gb469, _, none⟩) NB453_469.out _).trans (((cell_far (p := ⟨gb469, _, none⟩) NB453_469.out _).trans (((cell_far (p := ⟨gb469, _, none⟩) NB453_469.out _).trans (((cell_far (p := ⟨gb469, _, none⟩) NB453_469.out _).trans (hHeld.2))))))))))))⟩ (fun hHeld => ?_)
       clear hK K
       refine done_ (done_of HT_.out (by kernel_rfl)) ?_
       have hnb47 := NB469_453.out
       have hnc47 := NB453_469.out
       obtain ⟨hcz48_0, hcz48_1, hcz48_2, hcz48_3, hcz48_4, hcz48_5, hfz48_0, hfz48_1, hfz48_2, hfz48_3, hfz48_4, hfz48_5⟩ := cl6 BK469.out
       try go_wp2_with (first | ((with_reducible refine gX_ 42 64 rfl rfl ?_); refine goesY_ (some 64) Try.func42 #[.int .i64 a1, .agg #[.int .i64 t463, .bool t464, .int .i64 t465, .int .u64 t466, .int .u64 t467, .bool t468]] ?_; (with_reducible refine (vernierref07_Round.calls k a1 t463 t464 t465 t466 t467 t468 t470 _ A26.out).mono ?_); rintro e w49 ⟨rfl, hb⟩; refine ⟨_, rfl, ?_⟩; replace BK453 := Aside0.mk (bB (g := gb453) (o := .cells #[.int .i64 a0_0, .int .i64 a0_1] 32 (0, 0)) (bQ3 BK453.out) hb); replace BK469 := Aside0.mk (bB (g := gb469) (o := .cells #[.int .i64 t463, .bool t464, .int .i64 t465, .int .u64 t466, .int .u64 t467, .bool t468] 61 (0, 0)) (bQ3 BK469.out) hb); replace HB := Aside0.mk (bS3 HB.out hb); (try clear hb); (try clear hk)))
       go_ret2
       exact ⟨eR3, bR3 HB.out⟩
      ·
       rw [if_neg c23] at H
       have c23b0 : decide (0 < (Int.tmod (IntKind.u64.wrap (Int.tdiv a2 t455)) t456)) = false := decide_eq_false c23
       clear c23
       replace H := Option.bind_eq_some_iff.mp H
       obtain ⟨t471, A500, H⟩ := H
       try dsimp -simprocs only at H
       have A50 := Aside0.mk A500
       clear A500
       replace H := Option.bind_eq_some_iff.mp H
       obtain ⟨⟨t474, t475, t476, t477, t478, t479⟩, A510, H⟩ := H
       try dsimp -simprocs only at H
       have A51 := Aside0.mk A510
       clear A510
       replace H := Option.bind_eq_some_iff.mp H
       obtain ⟨t481, A520, H⟩ := H
       try dsimp -simprocs only at H
       have A52 := Aside0.mk A520
       clear A520
       simp only [Option.some.injEq, Prod.mk.injEq] at H
       obtain ⟨rfl, rfl⟩ := H
       go_enter Try.func14, Try.ntmps14
       try go_wp2_with (first | ((with_reducible refine gD (N := 3) rfl ?_); refine bE3 3 #[.int .i64 a0_0, .int .i64 a0_1] 32 ?hr ?_; (case hr => first | (go_simp; done) | (go_simp; rfl)); intro gb453 hg w53 hbox hb; have BK453 := Aside0.mk (hbox); have GW453 := Aside0.mk ((bZ3 hg HB.out)); have GE453 := Aside0.mk ((bZ3 hg HB.out)); replace HB := Aside0.mk (bS3 HB.out hb); clear hb hbox hg) | ((with_reducible refine gX_ 17 15 rfl rfl ?_); refine goesY_ (some 15) Try.func17 #[.int .i64 a1] ?_; (with_reducible refine (vernierref05_Is.calls a1 true _ A4.out).mono ?_); rintro e w' ⟨rfl, ⟨nd, rfl⟩⟩; refine ⟨_, rfl, ?_⟩; (try (rw [drewN_self w53]; generalize hq_ : World.drewN w53 _ = w53; have n0_ : Aside0 (w53.heap[gb453]? = some (.cells #[.int .i64 a0_0, .int .i64 a0_1] 32 (0, 0))) := ⟨by rw [← hq_]; exact (bK3 BK453.out)⟩; have n1_ : Aside0 (Below w.heap.size w w53) := ⟨by rw [← hq_]; exact (bR3 HB.out)⟩; clear BK453 HB hq_; have BK453 := n0_; have HB := n1_; clear n0_ n1_)); obtain ⟨hcz54_0, hcz54_1, hfz54_0, hfz54_1⟩ := cl2 BK453.out) | ((with_reducible refine gX_ 37 20 rfl rfl ?_); refine goesY_ (some 20) Try.func37 #[.int .i64 a0_0] ?_; (with_reducible refine (vernierref17_two.calls k a0_0 t455 _ A6.out).mono ?_); rintro e w' ⟨rfl, ⟨nd, rfl⟩⟩; refine ⟨_, rfl, ?_⟩; (try (rw [drewN_self w53]; generalize hq_ : World.drewN w53 _ = w53; have n0_ : Aside0 (w53.heap[gb453]? = some (.cells #[.int .i64 a0_0, .int .i64 a0_1] 32 (0, 0))) := ⟨by rw [← hq_]; exact (bK3 BK453.out)⟩; have n1_ : Aside0 (Below w.heap.size w w53) := ⟨by rw [← hq_]; exact (bR3 HB.out)⟩; clear BK453 HB hq_; have BK453 := n0_; have HB := n1_; clear n0_ n1_)); (try have hcz54_0 : w53.cell? ⟨gb453, 0, none⟩ = some (.int .i64 a0_0) := (blk_cell BK453.out 0).trans rfl); (try have hcz54_1 : w53.cell? ⟨gb453, 1, none⟩ = some (.int .i64 a0_1) := (blk_cell BK453.out 1).trans rfl); (try have hfz54_0 := blk_frozen BK453.out 0); (try have hfz54_1 := blk_frozen BK453.out 1)))
       have n0_ := Aside0.mk (bD BK453.out)
       have n1_ := Aside0.mk (p1 HB.out)
       clear BK453
       clear HB
       have BK453 := n0_
       have HB := n1_
       clear n0_ n1_
       refine start_ (n := 7) (S := fun w' => w'.cell? ⟨gb453, 0, none⟩ = some (.int .i64 a0_0) ∧ w'.cell? ⟨gb453, 1, none⟩ = some (.int .i64 a0_1)) (ds := []) #[false, false, false, false, false, false, false] (by kernel_rfl) rfl rfl ⟨(blk_cell BK453.out 0).trans rfl, (blk_cell BK453.out 1).trans rfl⟩ (fun hHeld => ?_)
       generalize w53.drew = w55 at BK453 HB hHeld ⊢
       refine pure_ (i := 0) (N := some 24) (v := ?_) (a' := ?_) #[true, false, false, false, false, false, false] rfl rfl (by kernel_rfl) (fun _ _ _ h => h) (Or.inl ⟨by rfl, ?_⟩) ?_ ?_
       rotate_left
       ·
        intro w'
        go_simp
        with_reducible rfl
       rotate_left
       ·
        simp only [Act.put, lS_, lZ_, lC_, i64_w, i32_w]
        rfl
       refine pure_ (i := 1) (N := some 25) (v := ?_) (a' := ?_) #[true, true, false, false, false, false, false] rfl rfl (by kernel_rfl) (fun _ _ _ h => h) (Or.inl ⟨by rfl, ?_⟩) ?_ ?_
       rotate_left
       ·
        intro w'
        go_simp
        with_reducible rfl
       rotate_left
       ·
        simp only [Act.put, lS_, lZ_, lC_, i64_w, i32_w]
        rfl
       refine pure_ (i := 2) (N := some 26) (v := ?_) (a' := ?_) #[true, true, true, false, false, false, false] rfl rfl (by kernel_rfl) (fun _ _ _ h => h) (Or.inl ⟨by rfl, ?_⟩) ?_ ?_
       rotate_left
       ·
        intro w'
        go_simp
        with_reducible rfl
       rotate_left
       ·
        simp only [Act.put, lS_, lZ_, lC_, i64_w, i32_w]
        rfl
       refine take_ (i := 3) (N := some 27) (v := ?_) (a' := ?_) #[true, true, true, true, false, false, false] rfl rfl (by kernel_rfl) (fun _ _ _ h => h) (Or.inl ⟨by rfl, ?_⟩) hHeld ?_ ?_
       rotate_left
       ·
        rintro w' ⟨s0, s1⟩
        go_simp
        with_reducible rfl
       rotate_left
       ·
        simp only [Act.put, lS_, lZ_, lC_, i64_w, i32_w]
        rfl
       refine one_ (i := 4) (N := some 28) #[true, true, true, true, true, false, false] rfl rfl (by kernel_rfl) (by decide) (fun K hK => ?_)
       refine goes_ Try.func38 (by kernel_rfl) rfl #[.agg #[.int .i64 a0_0, .int .i64 a0_1]] (by rfl) rfl rfl (by (try simp only [List.map_toArray, List.map_cons, List.map_nil]); first | done | rfl | (simp only [List.length_drop, List.length_take]; rfl)) ?_
       with_reducible refine (vernierref17_Form_exps.calls a0_0 a0_1 t456 _ A8.out).mono ?_
       rintro e w56 ⟨rfl, hb⟩
       refine ⟨_, rfl, ?_⟩
       have n0_ := Aside0.mk (bB3 BK453.out hb)
       have n1_ := Aside0.mk (bS3 HB.out hb)
       clear BK453
       clear HB
       have BK453 := n0_
       have HB := n1_
       clear n0_ n1_
       (try clear hb)
       (try clear hb2)
       (try clear hk)
       (try clear hi)
       refine hK.out _ _ ⟨(blk_cell BK453.out 0).trans rfl, (blk_cell BK453.out 1).trans rfl⟩ (fun hHeld => ?_)
       clear hK K
       refine norm_ (a' := ?_) ?_ ?_
       rotate_left
       ·
        show Act.put _ (some 28) _ = _
        simp only [Act.put, lS_, lZ_, lC_, i64_w, i32_w]
        rfl
       refine pure_ (i := 5) (N := some 29) (v := ?_) (a' := ?_) #[true, true, true, true, true, true, false] rfl rfl (by kernel_rfl) (fun _ _ _ h => h) (Or.inl ⟨by rfl, ?_⟩) ?_ ?_
       rotate_left
       ·
        intro w'
        go_simp
        with_reducible rfl
       rotate_left
       ·
        simp only [Act.put, lS_, lZ_, lC_, i64_w, i32_w]
        rfl
       refine pure_ (i := 6) (N := some 11) (v := ?_) (a' := ?_) #[true, true, true, true, true, true, true] rfl rfl (by kernel_rfl) (fun _ _ _ h => h) (Or.inl ⟨by rfl, ?_⟩) ?_ ?_
       rotate_left
       ·
        intro w'
        go_simp
        with_reducible rfl
       rotate_left
       ·
        simp only [Act.put, lS_, lZ_, lC_, i64_w, i32_w]
        rfl
       refine done_ (by kernel_rfl) ?_
       try go_wp2
       have n0_ := Aside0.mk (bD BK453.out)
       have n1_ := Aside0.mk (p1 HB.out)
       clear BK453
       clear HB
       have BK453 := n0_
       have HB := n1_
       clear n0_ n1_
       refine start_ (n := 9) (S := fun w' => w'.cell? ⟨gb453, 0, none⟩ = some (.int .i64 a0_0) ∧ w'.cell? ⟨gb453, 1, none⟩ = some (.int .i64 a0_1)) (ds := []) #[false, false, false, false, false, false, false, false, false] (by kernel_rfl) rfl rfl ⟨(blk_cell BK453.out 0).trans rfl, (blk_cell BK453.out 1).trans rfl⟩ (fun hHeld => ?_); refine with_tabW vernierref17_Form_From.tab7 vernierref17_Form_From.bits7 (fun HT_ HW_ => ?_)
       generalize w56.drew = w57 at BK453 HB hHeld ⊢
       refine pure_ (i := 0) (N := some 30) (v := ?_) (a' := ?_) #[true, false, false, false, false, false, false, false, false] rfl rfl (any_of HT_.out (by kernel_rfl)) (fun _ _ _ h => h) (Or.inl ⟨by rfl, ?_⟩) ?_ ?_
       rotate_left
       ·
        intro w'
        go_simp
        with_reducible rfl
       rotate_left
       ·
        simp only [Act.put, lS_, lZ_, lC_, i64_w, i32_w]
        rfl
       refine pure_ (i := 1) (N := some 31) (v := ?_) (a' := ?_) #[true, true, false, false, false, false, false, false, false] rfl rfl (any_of HT_.out (by kernel_rfl)) (fun _ _ _ h => h) (Or.inl ⟨by rfl, ?_⟩) ?_ ?_
       rotate_left
       ·
        intro w'
        go_simp
        with_reducible rfl
       rotate_left
       ·
        simp only [Act.put, lS_, lZ_, lC_, i64_w, i32_w]
        rfl
       refine pure_ (i := 2) (N := some 32) (v := ?_) (a' := ?_) #[true, true, true, false, false, false, false, false, false] rfl rfl (any_of HT_.out (by kernel_rfl)) (fun _ _ _ h => h) (Or.inl ⟨by rfl, ?_⟩) ?_ ?_
       rotate_left
       ·
        intro w'
        go_simp
        with_reducible rfl
       rotate_left
       ·
        simp only [Act.put, lS_, lZ_, lC_, i64_w, i32_w]
        rfl
       refine take_ (i := 3) (N := some 33) (v := ?_) (a' := ?_) #[true, true, true, true, false, false, false, false, false] rfl rfl (take_ofW HT_.out HW_.out (by kernel_rfl)) (fun _ _ _ h => h) (Or.inl ⟨by rfl, ?_⟩) hHeld ?_ ?_
       rotate_left
       ·
        rintro w' ⟨s0, s1⟩
        go_simp
        with_reducible rfl
       rotate_left
       ·
        simp only [Act.put, lS_, lZ_, lC_, i64_w, i32_w]
        rfl
       refine one_ (i := 4) (N := some 34) #[true, true, true, true, true, false, false, false, false] rfl rfl (one_of HT_.out (by kernel_rfl)) (by decide) (fun K hK => ?_)
       refine goes_ Try.func38 (by kernel_rfl) rfl #[.agg #[.int .i64 a0_0, .int .i64 a0_1]] (by rfl) rfl rfl (by (try simp only [List.map_toArray, List.map_cons, List.map_nil]); first | done | rfl | (simp only [List.length_drop, List.length_take]; rfl)) ?_
       with_reducible refine (vernierref17_Form_exps.calls a0_0 a0_1 t457 _ A10.out).mono ?_
       rintro e w58 ⟨rfl, hb⟩
       refine ⟨_, rfl, ?_⟩
       have n0_ := Aside0.mk (bB3 BK453.out hb)
       have n1_ := Aside0.mk (bS3 HB.out hb)
       clear BK453
       clear HB
       have BK453 := n0_
       have HB := n1_
       clear n0_ n1_
       (try clear hb)
       (try clear hb2)
       (try clear hk)
       (try clear hi)
       refine hK.out _ _ ⟨(blk_cell BK453.out 0).trans rfl, (blk_cell BK453.out 1).trans rfl⟩ (fun hHeld => ?_)
       clear hK K
       refine norm_ (a' := ?_) ?_ ?_
       rotate_left
       ·
        show Act.put _ (some 34) _ = _
        simp only [Act.put, lS_, lZ_, lC_, i64_w, i32_w]
        rfl
       refine pure_ (i := 5) (N := some 35) (v := ?_) (a' := ?_) #[true, true, true, true, true, true, false, false, false] rfl rfl (any_of HT_.out (by kernel_rfl)) (fun _ _ _ h => h) (Or.inl ⟨by rfl, ?_⟩) ?_ ?_
       rotate_left
       ·
        intro w'
        go_simp
        with_reducible rfl
       rotate_left
       ·
        simp only [Act.put, lS_, lZ_, lC_, i64_w, i32_w]
        rfl
       refine pure_ (i := 6) (N := some 36) (v := ?_) (a' := ?_) #[true, true, true, true, true, true, true, false, false] rfl rfl (any_of HT_.out (by kernel_rfl)) (fun _ _ _ h => h) (Or.inl ⟨by rfl, ?_⟩) ?_ ?_
       rotate_left
       ·
        intro w'
        go_simp
        with_reducible rfl
       rotate_left
       ·
        simp only [Act.put, lS_, lZ_, lC_, i64_w, i32_w]
        rfl
       refine pure_ (i := 7) (N := some 37) (v := ?_) (a' := ?_) #[true, true, true, true, true, true, true, true, false] rfl rfl (any_of HT_.out (by kernel_rfl)) (fun _ _ _ h => h) (Or.inl ⟨by rfl, ?_⟩) ?_ ?_
       rotate_left
       ·
        intro w'
        go_simp
        with_reducible rfl
       rotate_left
       ·
        simp only [Act.put, lS_, lZ_, lC_, i64_w, i32_w]
        rfl
       refine pure_ (i := 8) (N := some 12) (v := ?_) (a' := ?_) #[true, true, true, true, true, true, true, true, true] rfl rfl (any_of HT_.out (by kernel_rfl)) (fun _ _ _ h => h) (Or.inl ⟨by rfl, ?_⟩) ?_ ?_
       rotate_left
       ·
        intro w'
        go_simp
        with_reducible rfl
       rotate_left
       ·
        simp only [Act.put, lS_, lZ_, lC_, i64_w, i32_w]
        rfl
       refine done_ (done_of HT_.out (by kernel_rfl)) ?_
       obtain ⟨hcz59_0, hcz59_1, hfz59_0, hfz59_1⟩ := cl2 BK453.out
       try go_wp2_with (first | ((with_reducible refine gX_ 38 40 rfl rfl ?_); refine goesY_ (some 40) Try.func38 #[.agg #[.int .i64 a0_0, .int .i64 a0_1]] ?_; (with_reducible refine (vernierref17_Form_exps.calls a0_0 a0_1 t458 _ A12.out).mono ?_); rintro e w60 ⟨rfl, hb⟩; refine ⟨_, rfl, ?_⟩; replace BK453 := Aside0.mk (bB3 BK453.out hb); replace HB := Aside0.mk (bS3 HB.out hb); (try clear hb); (try clear hk)))
       have n0_ := Aside0.mk (bD BK453.out)
       have n1_ := Aside0.mk (p1 HB.out)
       clear BK453
       clear HB
       have BK453 := n0_
       have HB := n1_
       clear n0_ n1_
       refine start_ (n := 11) (S := fun w' => w'.cell? ⟨gb453, 0, none⟩ = some (.int .i64 a0_0) ∧ w'.cell? ⟨gb453, 1, none⟩ = some (.int .i64 a0_1)) (ds := []) #[false, false, false, false, false, false, false, false, false, false, false] (by kernel_rfl) rfl rfl ⟨(blk_cell BK453.out 0).trans rfl, (blk_cell BK453.out 1).trans rfl⟩ (fun hHeld => ?_); refine with_tabW vernierref17_Form_From.tab13 vernierref17_Form_From.bits13 (fun HT_ HW_ => ?_)
       generalize w60.drew = w61 at BK453 HB hHeld ⊢
       refine pure_ (i := 0) (N := some 53) (v := ?_) (a' := ?_) #[true, false, false, false, false, false, false, false, false, false, false] rfl rfl (any_of HT_.out (by kernel_rfl)) (fun _ _ _ h => h) (Or.inl ⟨by rfl, ?_⟩) ?_ ?_
       rotate_left
       ·
        intro w'
        go_simp
        with_reducible rfl
       rotate_left
       ·
        simp only [Act.put, lS_, lZ_, lC_, i64_w, i32_w]
        rfl
       refine pure_ (i := 1) (N := some 54) (v := ?_) (a' := ?_) #[true, true, false, false, false, false, false, false, false, false, false] rfl rfl (any_of HT_.out (by kernel_rfl)) (fun _ _ _ h => h) (Or.inl ⟨by rfl, ?_⟩) ?_ ?_
       rotate_left
       ·
        intro w'
        go_simp
        with_reducible rfl
       rotate_left
       ·
        simp only [Act.put, lS_, lZ_, lC_, i64_w, i32_w]
        rfl
       refine pure_ (i := 3) (N := some 56) (v := ?_) (a' := ?_) #[true, true, false, true, false, false, false, false, false, false, false] rfl rfl (any_of HT_.out (by kernel_rfl)) (fun _ _ _ h => h) (Or.inl ⟨by rfl, ?_⟩) ?_ ?_
       rotate_left
       ·
        intro w'
        go_simp
        with_reducible rfl
       rotate_left
       ·
        simp only [Act.put, lS_, lZ_, lC_, i64_w, i32_w]
        rfl
       refine pure_ (i := 5) (N := some 58) (v := ?_) (a' := ?_) #[true, true, false, true, false, true, false, false, false, false, false] rfl rfl (any_of HT_.out (by kernel_rfl)) (fun _ _ _ h => h) (Or.inl ⟨by rfl, ?_⟩) ?_ ?_
       rotate_left
       ·
        intro w'
        go_simp
        with_reducible rfl
       rotate_left
       ·
        simp only [Act.put, lS_, lZ_, lC_, i64_w, i32_w]
        rfl
       refine pure_ (i := 6) (N := some 59) (v := ?_) (a' := ?_) #[true, true, false, true, false, true, true, false, false, false, false] rfl rfl (any_of HT_.out (by kernel_rfl)) (fun _ _ _ h => h) (Or.inl ⟨by rfl, ?_⟩) ?_ ?_
       rotate_left
       ·
        intro w'
        go_simp
        with_reducible rfl
       rotate_left
       ·
        simp only [Act.put, lS_, lZ_, lC_, i64_w, i32_w]
        rfl
       refine take_ (i := 4) (N := some 57) (v := ?_) (a' := ?_) #[true, true, false, true, true, true, true, false, false, false, false] rfl rfl (take_ofW HT_.out HW_.out (by kernel_rfl)) (fun _ _ _ h => h) (Or.inl ⟨by rfl, ?_⟩) hHeld ?_ ?_
       rotate_left
       ·
        rintro w' ⟨s0, s1⟩
        go_simp
        with_reducible rfl
       rotate_left
       ·
        simp only [Act.put, lS_, lZ_, lC_, i64_w, i32_w]
        rfl
       refine pure_ (i := 7) (N := some 60) (v := ?_) (a' := ?_) #[true, true, false, true, true, true, true, true, false, false, false] rfl rfl (any_of HT_.out (by kernel_rfl)) (fun _ _ _ h => h) (Or.inl ⟨by rfl, ?_⟩) ?_ ?_
       rotate_left
       ·
        intro w'
        go_simp
        with_reducible rfl
       rotate_left
       ·
        simp only [Act.put, lS_, lZ_, lC_, i64_w, i32_w]
        rfl
       refine join_ (σ := Value × Nat) 1 #[true, true, true, true, true, true, true, true, true, true, false] (fun s_ => [(55, s_.1), (61, .agg #[.int .i64 t474, .bool t475, .int .i64 t476, .int .u64 t477, .int .u64 t478, .bool t479]), (13, .pointer (some ⟨s_.2, 0, none⟩))]) (fun s_ w' => (w'.cell? ⟨gb453, 0, none⟩ = some (.int .i64 a0_0) ∧ w'.cell? ⟨gb453, 1, none⟩ = some (.int .i64 a0_1)) ∧ (w'.heap[gb453]? = some (.cells #[.int .i64 a0_0, .int .i64 a0_1] 32 (0, 0))) ∧ (w'.heap[s_.2]? = some (.cells #[.int .i64 0, .bool false, .int .i64 0, .int .u64 0, .int .u64 0, .bool false] 61 (0, 0))) ∧ (w.heap.size ≤ s_.2) ∧ (w.heap.size ≤ s_.2) ∧ (gb453 ≠ s_.2) ∧ (s_.2 ≠ gb453) ∧ (Below w.heap.size w w')) ?_ ?_
       rotate_left
       ·
        intro hCont
        refine two_ (i := 2) (j := 9) (Ni := some 55) (Nj := some 13) #[true, true, true, true, true, true, true, true, false, false, false] #[true, true, false, true, true, true, true, true, false, true, false] rfl rfl rfl rfl (two_of HT_.out (by kernel_rfl)) (by decide) (by decide) (fun K hK => ?_) (fun K hK => ?_)
        ·
         skip
         refine goes_ Try.func41 (by kernel_rfl) rfl #[.int .u64 (Int.tmod a2 t455)] (by rfl) rfl rfl (by (try simp only [List.map_toArray, List.map_cons, List.map_nil]); first | done | rfl | (simp only [List.length_drop, List.length_take]; rfl)) ?_
         with_reducible refine (vernierref04_Of.calls k (Int.tmod a2 t455) t471 _ A50.out).mono ?_
         rintro e w62 ⟨v472, rfl, ho0, hb⟩
         refine ⟨_, rfl, ?_⟩
         have n0_ := Aside0.mk (Kd.R_lower ho0 (bZ (bR3 HB.out)))
         have n1_ := Aside0.mk (bB3 BK453.out hb)
         have n2_ := Aside0.mk (bS3 HB.out hb)
         clear BK453
         clear HB
         have HO473 := n0_
         have BK453 := n1_
         have HB := n2_
         clear n0_ n1_ n2_
         (try clear hb)
         (try clear hb2)
         (try clear hk)
         (try clear hi)
         (try clear ho0)
         obtain ⟨Ao63, co63, eo63⟩ := Kd.R_slice HO473.out
         (first | subst eo63 | (injection eo63 with f1_ f2_ f3_; have f4_ := f1_.symm; have f5_ := f3_.symm; clear f1_ f2_ f3_; subst f4_; subst f5_))
         refine hK.out _ _ ⟨(blk_cell BK453.out 0).trans rfl, (blk_cell BK453.out 1).trans rfl⟩ (fun hHeld => ?_)
         clear hK K
         refine norm_ (a' := ?_) ?_ ?_
         rotate_left
         ·
          show Act.put _ (some 55) _ = _
          simp only [Act.put, lS_, lZ_, lC_, i64_w, i32_w]
          rfl
         refine two_ (i := 8) (j := 9) (Ni := some 61) (Nj := some 13) #[true, true, true, true, true, true, true, true, true, false, false] #[true, true, true, true, true, true, true, true, false, true, false] rfl rfl rfl rfl (two_of HT_.out (by kernel_rfl)) (by decide) (by decide) (fun K hK => ?_) (fun K hK => ?_)
         ·
          skip
          refine goes_ Try.func40 (by kernel_rfl) rfl #[.bool ((Int.tmod (IntKind.u64.wrap (Int.tdiv (IntKind.u64.wrap (Int.tdiv a2 t455)) t457)) 2) == 1), .slice Ao63 t471.length co63, .int .i64 (wrap64 (a0_1 + (wrap64 (Int.tmod (IntKind.u64.wrap (Int.tdiv a2 t455)) t456)))), .bool false] (by rfl) rfl rfl (by (try simp only [List.map_toArray, List.map_cons, List.map_nil]); first | done | rfl | (simp only [List.length_drop, List.length_take]; rfl)) ?_
          with_reducible refine (vernierref07_Exactly.calls k ((Int.tmod (IntKind.u64.wrap (Int.tdiv (IntKind.u64.wrap (Int.tdiv a2 t455)) t457)) 2) == 1) (fun k_ => some k_ = (.slice Ao63 t471.length co63 : Value).ownBlock) (.slice Ao63 t471.length co63) t471 (wrap64 (a0_1 + (wrap64 (Int.tmod (IntKind.u64.wrap (Int.tdiv a2 t455)) t456)))) false t474 t475 t476 t477 t478 t479 w _ ?side1 ?side2 A51.out).mono ?_
          (case side1 => repeat (first | (with_reducible first | exact HB.out | apply pA | apply pN | apply p1 | refine pS ?_ GE453.out) | exact HB.out))
          (case side2 => exact Kd.R_tight rfl HO473.out)
          rintro e w64 ⟨rfl, hb, hkp⟩
          refine ⟨_, rfl, ?_⟩
          have n0_ := Aside0.mk (blk_kept (bK3 BK453.out) hkp (fun hs_ => (fun e_ => (Kd.R_ne HO473.out BK453.out (by decide)) e_) hs_))
          have n1_ := Aside0.mk (hb)
          clear BK453
          clear HB
          clear HO473
          have BK453 := n0_
          have HB := n1_
          clear n0_ n1_
          (try clear hb)
          (try clear hkp)
          refine hK.out _ _ ⟨(blk_cell BK453.out 0).trans rfl, (blk_cell BK453.out 1).trans rfl⟩ (fun hHeld => ?_)
          clear hK K
          refine norm_ (a' := ?_) ?_ ?_
          rotate_left
          ·
           show Act.put _ (some 61) _ = _
           simp only [Act.put, lS_, lZ_, lC_, i64_w, i32_w]
           rfl
          refine one_ (i := 9) (N := some 13) #[true, true, true, true, true, true, true, true, true, true, false] rfl rfl (one_of HT_.out (by kernel_rfl)) (by decide) (fun K hK => ?_)
          refine box_step ?hg (N := 13) ?hd (cs := #[.int .i64 0, .bool false, .int .i64 0, .int .u64 0, .int .u64 0, .bool false]) (t := 61) ?hr ?_; (case hd => rfl); (case hg => rfl); (case hr => first | (go_simp; done) | (go_simp; rfl))
          intro gb480 hg w65 hbox hb
          have n0_ := Aside0.mk (bB3 BK453.out hb)
          have n1_ := Aside0.mk (bS3 HB.out hb)
          have n2_ := Aside0.mk (hbox)
          have n3_ := Aside0.mk ((bZ3 hg HB.out))
          have n4_ := Aside0.mk ((bZ3 hg HB.out))
          have n5_ := Aside0.mk ((bL3 hg BK453.out))
          have n6_ := Aside0.mk ((bG3 hg BK453.out))
          clear BK453
          clear HB
          have BK453 := n0_
          have HB := n1_
          have BK480 := n2_
          have GW480 := n3_
          have GE480 := n4_
          have NB453_480 := n5_
          have NB480_453 := n6_
          clear n0_ n1_ n2_ n3_ n4_ n5_ n6_
          clear hb hbox hg
          refine hK.out _ _ ⟨(blk_cell BK453.out 0).trans rfl, (blk_cell BK453.out 1).trans rfl⟩ (fun hHeld => ?_)
          clear hK K
          refine norm_ (a' := ?_) ?_ ?_
          rotate_left
          ·
           show Act.put _ (some 13) _ = _
           simp only [Act.put, lS_, lZ_, lC_, i64_w, i32_w]
           rfl
          exact norm_ (by simp only [putAll, Act.put, lS_, lZ_, lC_]) (hCont (.slice Ao63 t471.length co63, gb480) _ ⟨hHeld, (bK3 BK453.out), (bK3 BK480.out), GW480.out, GE480.out, NB453_480.out, NB480_453.out, (bR3 HB.out)⟩)
         ·
          skip
          refine box_step ?hg (N := 13) ?hd (cs := #[.int .i64 0, .bool false, .int .i64 0, .int .u64 0, .int .u64 0, .bool false]) (t := 61) ?hr ?_; (case hd => rfl); (case hg => rfl); (case hr => first | (go_simp; done) | (go_simp; rfl))
          intro gb480 hg w63 hbox hb
          have n0_ := Aside0.mk (Kd.R_below (by (with_reducible repeat (first | apply Kd.R_alloc | apply Kd.R_drewN | apply Kd.R_drew)); exact HO473.out) hb)
          have n1_ := Aside0.mk (bB3 BK453.out hb)
          have n2_ := Aside0.mk (bS3 HB.out hb)
          have n3_ := Aside0.mk (hbox)
          have n4_ := Aside0.mk ((bZ3 hg HB.out))
          have n5_ := Aside0.mk ((bZ3 hg HB.out))
          have n6_ := Aside0.mk ((bL3 hg BK453.out))
          have n7_ := Aside0.mk ((bG3 hg BK453.out))
          clear HO473
          clear BK453
          clear HB
          have HO473 := n0_
          have BK453 := n1_
          have HB := n2_
          have BK480 := n3_
          have GW480 := n4_
          have GE480 := n5_
          have NB453_480 := n6_
          have NB480_453 := n7_
          clear n0_ n1_ n2_ n3_ n4_ n5_ n6_ n7_
          clear hb hbox hg
          obtain ⟨Ao64, co64, eo64⟩ := Kd.R_slice HO473.out
          (first | subst eo64 | (injection eo64 with f1_ f2_ f3_; have f4_ := f1_.symm; have f5_ := f3_.symm; clear f1_ f2_ f3_; subst f4_; subst f5_))
          refine hK.out _ _ ⟨(blk_cell BK453.out 0).trans rfl, (blk_cell BK453.out 1).trans rfl⟩ (fun hHeld => ?_)
          clear hK K
          refine norm_ (a' := ?_) ?_ ?_
          rotate_left
          ·
           show Act.put _ (some 13) _ = _
           simp only [Act.put, lS_, lZ_, lC_, i64_w, i32_w]
           rfl
          refine one_ (i := 8) (N := some 61) #[true, true, true, true, true, true, true, true, true, true, false] rfl rfl (one_of HT_.out (by kernel_rfl)) (by decide) (fun K hK => ?_)
          refine goes_ Try.func40 (by kernel_rfl) rfl #[.bool ((Int.tmod (IntKind.u64.wrap (Int.tdiv (IntKind.u64.wrap (Int.tdiv a2 t455)) t457)) 2) == 1), .slice Ao64 t471.length co64, .int .i64 (wrap64 (a0_1 + (wrap64 (Int.tmod (IntKind.u64.wrap (Int.tdiv a2 t455)) t456)))), .bool false] (by rfl) rfl rfl (by (try simp only [List.map_toArray, List.map_cons, List.map_nil]); first | done | rfl | (simp only [List.length_drop, List.length_take]; rfl)) ?_
          with_reducible refine (vernierref07_Exactly.calls k ((Int.tmod (IntKind.u64.wrap (Int.tdiv (IntKind.u64.wrap (Int.tdiv a2 t455)) t457)) 2) == 1) (fun k_ => some k_ = (.slice Ao64 t471.length co64 : Value).ownBlock) (.slice Ao64 t471.length co64) t471 (wrap64 (a0_1 + (wrap64 (Int.tmod (IntKind.u64.wrap (Int.tdiv a2 t455)) t456)))) false t474 t475 t476 t477 t478 t479 w _ ?side1 ?side2 A51.out).mono ?_
          (case side1 => repeat (first | (with_reducible first | exact HB.out | apply pA | apply pN | apply p1 | refine pS ?_ GE453.out | refine pS ?_ GE480.out) | exact HB.out))
          (case side2 => exact Kd.R_tight rfl HO473.out)
          rintro e w65 ⟨rfl, hb, hkp⟩
          refine ⟨_, rfl, ?_⟩
          have n0_ := Aside0.mk (blk_kept (bK3 BK453.out) hkp (fun hs_ => (fun e_ => (Kd.R_ne HO473.out BK453.out (by decide)) e_) hs_))
          have n1_ := Aside0.mk (blk_kept (bK3 BK480.out) hkp (fun hs_ => (fun e_ => (Kd.R_ne HO473.out BK480.out (by decide)) e_) hs_))
          have n2_ := Aside0.mk (hb)
          clear BK453
          clear BK480
          clear HB
          clear HO473
          have BK453 := n0_
          have BK480 := n1_
          have HB := n2_
          clear n0_ n1_ n2_
          (try clear hb)
          (try clear hkp)
          refine hK.out _ _ ⟨(blk_cell BK453.out 0).trans rfl, (blk_cell BK453.out 1).trans rfl⟩ (fun hHeld => ?_)
          clear hK K
          refine norm_ (a' := ?_) ?_ ?_
          rotate_left
          ·
           show Act.put _ (some 61) _ = _
           simp only [Act.put, lS_, lZ_, lC_, i64_w, i32_w]
           rfl
          exact norm_ (by simp only [putAll, Act.put, lS_, lZ_, lC_]) (hCont (.slice Ao64 t471.length co64, gb480) _ ⟨hHeld, (bK3 BK453.out), (bK3 BK480.out), GW480.out, GE480.out, NB453_480.out, NB480_453.out, (bR3 HB.out)⟩)
        ·
         skip
         refine box_step ?hg (N := 13) ?hd (cs := #[.int .i64 0, .bool false, .int .i64 0, .int .u64 0, .int .u64 0, .bool false]) (t := 61) ?hr ?_; (case hd => rfl); (case hg => rfl); (case hr => first | (go_simp; done) | (go_simp; rfl))
         intro gb480 hg w62 hbox hb
         have n0_ := Aside0.mk (bB3 BK453.out hb)
         have n1_ := Aside0.mk (bS3 HB.out hb)
         have n2_ := Aside0.mk (hbox)
         have n3_ := Aside0.mk ((bZ3 hg HB.out))
         have n4_ := Aside0.mk ((bZ3 hg HB.out))
         have n5_ := Aside0.mk ((bL3 hg BK453.out))
         have n6_ := Aside0.mk ((bG3 hg BK453.out))
         clear BK453
         clear HB
         have BK453 := n0_
         have HB := n1_
         have BK480 := n2_
         have GW480 := n3_
         have GE480 := n4_
         have NB453_480 := n5_
         have NB480_453 := n6_
         clear n0_ n1_ n2_ n3_ n4_ n5_ n6_
         clear hb hbox hg
         refine hK.out _ _ ⟨(blk_cell BK453.out 0).trans rfl, (blk_cell BK453.out 1).trans rfl⟩ (fun hHeld => ?_)
         clear hK K
         refine norm_ (a' := ?_) ?_ ?_
         rotate_left
         ·
          show Act.put _ (some 13) _ = _
          simp only [Act.put, lS_, lZ_, lC_, i64_w, i32_w]
          rfl
         refine one_ (i := 2) (N := some 55) #[true, true, true, true, true, true, true, true, false, true, false] rfl rfl (one_of HT_.out (by kernel_rfl)) (by decide) (fun K hK => ?_)
         refine goes_ Try.func41 (by kernel_rfl) rfl #[.int .u64 (Int.tmod a2 t455)] (by rfl) rfl rfl (by (try simp only [List.map_toArray, List.map_cons, List.map_nil]); first | done | rfl | (simp only [List.length_drop, List.length_take]; rfl)) ?_
         with_reducible refine (vernierref04_Of.calls k (Int.tmod a2 t455) t471 _ A50.out).mono ?_
         rintro e w63 ⟨v472, rfl, ho0, hb⟩
         refine ⟨_, rfl, ?_⟩
         have n0_ := Aside0.mk (Kd.R_lower ho0 (bZ (bR3 HB.out)))
         have n1_ := Aside0.mk (bB3 BK453.out hb)
         have n2_ := Aside0.mk (bB3 BK480.out hb)
         have n3_ := Aside0.mk (bS3 HB.out hb)
         clear BK453
         clear BK480
         clear HB
         have HO473 := n0_
         have BK453 := n1_
         have BK480 := n2_
         have HB := n3_
         clear n0_ n1_ n2_ n3_
         (try clear hb)
         (try clear hb2)
         (try clear hk)
         (try clear hi)
         (try clear ho0)
         obtain ⟨Ao64, co64, eo64⟩ := Kd.R_slice HO473.out
         (first | subst eo64 | (injection eo64 with f1_ f2_ f3_; have f4_ := f1_.symm; have f5_ := f3_.symm; clear f1_ f2_ f3_; subst f4_; subst f5_))
         refine hK.out _ _ ⟨(blk_cell BK453.out 0).trans rfl, (blk_cell BK453.out 1).trans rfl⟩ (fun hHeld => ?_)
         clear hK K
         refine norm_ (a' := ?_) ?_ ?_
         rotate_left
         ·
          show Act.put _ (some 55) _ = _
          simp only [Act.put, lS_, lZ_, lC_, i64_w, i32_w]
          rfl
         refine one_ (i := 8) (N := some 61) #[true, true, true, true, true, true, true, true, true, true, false] rfl rfl (one_of HT_.out (by kernel_rfl)) (by decide) (fun K hK => ?_)
         refine goes_ Try.func40 (by kernel_rfl) rfl #[.bool ((Int.tmod (IntKind.u64.wrap (Int.tdiv (IntKind.u64.wrap (Int.tdiv a2 t455)) t457)) 2) == 1), .slice Ao64 t471.length co64, .int .i64 (wrap64 (a0_1 + (wrap64 (Int.tmod (IntKind.u64.wrap (Int.tdiv a2 t455)) t456)))), .bool false] (by rfl) rfl rfl (by (try simp only [List.map_toArray, List.map_cons, List.map_nil]); first | done | rfl | (simp only [List.length_drop, List.length_take]; rfl)) ?_
         with_reducible refine (vernierref07_Exactly.calls k ((Int.tmod (IntKind.u64.wrap (Int.tdiv (IntKind.u64.wrap (Int.tdiv a2 t455)) t457)) 2) == 1) (fun k_ => some k_ = (.slice Ao64 t471.length co64 : Value).ownBlock) (.slice Ao64 t471.length co64) t471 (wrap64 (a0_1 + (wrap64 (Int.tmod (IntKind.u64.wrap (Int.tdiv a2 t455)) t456)))) false t474 t475 t476 t477 t478 t479 w _ ?side1 ?side2 A51.out).mono ?_
         (case side1 => repeat (first | (with_reducible first | exact HB.out | apply pA | apply pN | apply p1 | refine pS ?_ GE453.out | refine pS ?_ GE480.out) | exact HB.out))
         (case side2 => exact Kd.R_tight rfl HO473.out)
         rintro e w65 ⟨rfl, hb, hkp⟩
         refine ⟨_, rfl, ?_⟩
         have n0_ := Aside0.mk (blk_kept (bK3 BK453.out) hkp (fun hs_ => (fun e_ => (Kd.R_ne HO473.out BK453.out (by decide)) e_) hs_))
         have n1_ := Aside0.mk (blk_kept (bK3 BK480.out) hkp (fun hs_ => (fun e_ => (Kd.R_ne HO473.out BK480.out (by decide)) e_) hs_))
         have n2_ := Aside0.mk (hb)
         clear BK453
         clear BK480
         clear HB
         clear HO473
         have BK453 := n0_
         have BK480 := n1_
         have HB := n2_
         clear n0_ n1_ n2_
         (try clear hb)
         (try clear hkp)
         refine hK.out _ _ ⟨(blk_cell BK453.out 0).trans rfl, (blk_cell BK453.out 1).trans rfl⟩ (fun hHeld => ?_)
         clear hK K
         refine norm_ (a' := ?_) ?_ ?_
         rotate_left
         ·
          show Act.put _ (some 61) _ = _
          simp only [Act.put, lS_, lZ_, lC_, i64_w, i32_w]
          rfl
         exact norm_ (by simp only [putAll, Act.put, lS_, lZ_, lC_]) (hCont (.slice Ao64 t471.length co64, gb480) _ ⟨hHeld, (bK3 BK453.out), (bK3 BK480.out), GW480.out, GE480.out, NB453_480.out, NB480_453.out, (bR3 HB.out)⟩)
       rintro ⟨v472, gb480⟩ w66 ⟨hS_, h0_, h1_, h2_, h3_, h4_, h5_, h6_⟩
       have n0_ : Aside0 (w66.heap[gb453]? = some (.cells #[.int .i64 a0_0, .int .i64 a0_1] 32 (0, 0))) := ⟨h0_⟩
       have n1_ : Aside0 (w66.heap[gb480]? = some (.cells #[.int .i64 0, .bool false, .int .i64 0, .int .u64 0, .int .u64 0, .bool false] 61 (0, 0))) := ⟨h1_⟩
       have n2_ : Aside0 (w.heap.size ≤ gb480) := ⟨h2_⟩
       have n3_ : Aside0 (w.heap.size ≤ gb480) := ⟨h3_⟩
       have n4_ : Aside0 (gb453 ≠ gb480) := ⟨h4_⟩
       have n5_ : Aside0 (gb480 ≠ gb453) := ⟨h5_⟩
       have n6_ : Aside0 (Below w.heap.size w w66) := ⟨h6_⟩
       clear BK453
       clear HB
       clear h0_ h1_ h2_ h3_ h4_ h5_ h6_
       have BK453 := n0_
       have BK480 := n1_
       have GW480 := n2_
       have GE480 := n3_
       have NB453_480 := n4_
       have NB480_453 := n5_
       have HB := n6_
       clear n0_ n1_ n2_ n3_ n4_ n5_ n6_
       have hHeld : w66.cell? ⟨gb453, 0, none⟩ = some (.int .i64 a0_0) ∧ w66.cell? ⟨gb453, 1, none⟩ = some (.int .i64 a0_1) := hS_
       refine norm_ (a' := ?_) ?_ ?_
       rotate_left
       ·
        simp only [putAll, Act.put, lS_, lZ_, lC_]
        rfl
       refine one_ (i := 10) (N := none) #[true, true, true, true, true, true, true, true, true, true, true] rfl rfl (one_of HT_.out (by kernel_rfl)) (by decide) (fun K hK => ?_)
       have hs67 : w66.cell? ⟨gb480, 0, none⟩ = some (.int .i64 0) := (blk_cell BK480.out 0).trans rfl
       have hfs67 := blk_frozen BK480.out 0
       have hns67_0 := NB453_480.out
       have hms67_0 := NB480_453.out
       have hs68 : w66.cell? ⟨gb480, 1, none⟩ = some (.bool false) := (blk_cell BK480.out 1).trans rfl
       have hfs68 := blk_frozen BK480.out 1
       have hns68_0 := NB453_480.out
       have hms68_0 := NB480_453.out
       have hs69 : w66.cell? ⟨gb480, 2, none⟩ = some (.int .i64 0) := (blk_cell BK480.out 2).trans rfl
       have hfs69 := blk_frozen BK480.out 2
       have hns69_0 := NB453_480.out
       have hms69_0 := NB480_453.out
       have hs70 : w66.cell? ⟨gb480, 3, none⟩ = some (.int .u64 0) := (blk_cell BK480.out 3).trans rfl
       have hfs70 := blk_frozen BK480.out 3
       have hns70_0 := NB453_480.out
       have hms70_0 := NB480_453.out
       have hs71 : w66.cell? ⟨gb480, 4, none⟩ = some (.int .u64 0) := (blk_cell BK480.out 4).trans rfl
       have hfs71 := blk_frozen BK480.out 4
       have hns71_0 := NB453_480.out
       have hms71_0 := NB480_453.out
       have hs72 : w66.cell? ⟨gb480, 5, none⟩ = some (.bool false) := (blk_cell BK480.out 5).trans rfl
       have hfs72 := blk_frozen BK480.out 5
       have hns72_0 := NB453_480.out
       have hms72_0 := NB480_453.out
       refine skip_ (w1 := ?_) (by rfl) rfl ?_ ?_
       rotate_left
       ·
        go_simp
        rfl
       refine hK.out _ _ ⟨((cell_far (p := ⟨gb480, _, none⟩) NB453_480.out _).trans (((cell_far (p := ⟨gb480, _, none⟩) NB453_480.out _).trans (((cell_far (p := ⟨gb480, _, none⟩) NB453_480.out _).trans (((cell_far (p := ⟨gb480, _, none⟩) NB453_480.out _).trans (((cell_far (p := ⟨gb480, _, none⟩) NB453_480.out _).trans (((cell_far (p := ⟨gb480, _, none⟩) NB453_480.out _).trans (hHeld.1)))))))))))), ((cell_far (p := ⟨gb480, _, none⟩) NB453_480.out _).trans (((cell_far (p := ⟨gb480, _, none⟩) NB453_480.out _).trans (((cell_far (p := ⟨gb480, _, none⟩) NB453_480.out _).trans (((cell_far (p := ⟨gb480, _, none⟩) NB453_480.out _).trans (((cell_far (p := ⟨gb480, _, none⟩) NB453_480.out _).trans (((cell_far (p := ⟨gb480, _, none⟩) NB453_480.out _).trans (hHeld.2))))))))))))⟩ (fun hHeld => ?_)
       clear hK K
       refine done_ (done_of HT_.out (by kernel_rfl)) ?_
       have hnb73 := NB480_453.out
       have hnc73 := NB453_480.out
       obtain ⟨hcz74_0, hcz74_1, hcz74_2, hcz74_3, hcz74_4, hcz74_5, hfz74_0, hfz74_1, hfz74_2, hfz74_3, hfz74_4, hfz74_5⟩ := cl6 BK480.out
       try go_wp2_with (first | ((with_reducible refine gX_ 42 64 rfl rfl ?_); refine goesY_ (some 64) Try.func42 #[.int .i64 a1, .agg #[.int .i64 t474, .bool t475, .int .i64 t476, .int .u64 t477, .int .u64 t478, .bool t479]] ?_; (with_reducible refine (vernierref07_Round.calls k a1 t474 t475 t476 t477 t478 t479 t481 _ A52.out).mono ?_); rintro e w75 ⟨rfl, hb⟩; refine ⟨_, rfl, ?_⟩; replace BK453 := Aside0.mk (bB (g := gb453) (o := .cells #[.int .i64 a0_0, .int .i64 a0_1] 32 (0, 0)) (bQ3 BK453.out) hb); replace BK480 := Aside0.mk (bB (g := gb480) (o := .cells #[.int .i64 t474, .bool t475, .int .i64 t476, .int .u64 t477, .int .u64 t478, .bool t479] 61 (0, 0)) (bQ3 BK480.out) hb); replace HB := Aside0.mk (bS3 HB.out hb); (try clear hb); (try clear hk)))
       go_ret2
       exact ⟨eR3, bR3 HB.out⟩
 ·
  replace c5 := Bool.eq_false_iff.mpr c5
  subst c5
  rw [if_neg (show ¬ (false = true) by decide)] at H
  simp only [Option.some.injEq, Prod.mk.injEq] at H
  obtain ⟨rfl, rfl⟩ := H
  go_enter Try.func14, Try.ntmps14
  go_wp2_with (first | ((with_reducible refine gD (N := 3) rfl ?_); refine bE3 3 #[.int .i64 a0_0, .int .i64 a0_1] 32 ?hr ?_; (case hr => first | (go_simp; done) | (go_simp; rfl)); intro gb453 hg w76 hbox hb; have BK453 := Aside0.mk (hbox); have GW453 := Aside0.mk ((bZ3 hg HB.out)); have GE453 := Aside0.mk ((bZ3 hg HB.out)); replace HB := Aside0.mk (bS3 HB.out hb); clear hb hbox hg) | ((with_reducible refine gX_ 17 15 rfl rfl ?_); refine goesY_ (some 15) Try.func17 #[.int .i64 a1] ?_; (with_reducible refine (vernierref05_Is.calls a1 false _ A4.out).mono ?_); rintro e w' ⟨rfl, ⟨nd, rfl⟩⟩; refine ⟨_, rfl, ?_⟩))
  go_ret2
  exact ⟨eR3, bR3 HB.out⟩
mutual
def vernierref17_Form_To.j0 : Nat → Int → Int → Int → Int → Int → Bool → Int → Int → Option (Int)
 | 0, _, _, _, _, _, _, _, _ => none
 | k + 1, x8, x9, x554000, x554001, x559000, x559001, x559002, x559003 => if (wrap64 (x559002 - x554000)) < x554001 then (vernierref17_Form_To.j1 k x8 x9 x554001 x554000 x554001 x559000 x559001 x559002 x559003) else (vernierref17_Form_To.j1 k x8 x9 (wrap64 (x559002 - x554000)) x554000 x554001 x559000 x559001 x559002 x559003)
def vernierref17_Form_To.j1 : Nat → Int → Int → Int → Int → Int → Int → Bool → Int → Int → Option (Int)
 | 0, _, _, _, _, _, _, _, _, _ => none
 | k + 1, x8, x9, x10, x554000, x554001, x559000, x559001, x559002, x559003 => (vernierref04_Of.f k x559003).bind fun t561 => ((vernierref04_Shr.f k t561 (wrap64 (-(wrap64 ((wrap64 (x559002 - 63)) - x10))))).bind fun t564 => ((vernierref04_Shl.f k t564 (wrap64 (-(wrap64 ((wrap64 (x559002 - 63)) - x10))))).bind fun t567 => ((vernierref04_Sub.f k t561 t567).bind fun t570 => ((vernierref04_Shl.f k (([1] : List Int)) (wrap64 (-(wrap64 ((wrap64 (x559002 - 63)) - x10))))).bind fun t576 => ((vernierref04_Add.f k t570 t570).bind fun t579 => ((vernierref04_Cmp.f k t579 t576).bind fun t582 => ((vernierref04_Low.f k t564 1).bind fun t583 => (if t582 > 0 then (vernierref17_Form_To.j2 k x8 x9 x10 t564 true x554000 x554001) else (if t582 = 0 then (vernierref17_Form_To.j2 k x8 x9 x10 t564 t583 x554000 x554001) else (vernierref17_Form_To.j2 k x8 x9 x10 t564 false x554000 x554001))))))))))
def vernierref17_Form_To.j2 : Nat → Int → Int → Int → List Int → Bool → Int → Int → Option (Int)
 | 0, _, _, _, _, _, _, _ => none
 | k + 1, x8, x9, x10, x13, x83, x554000, x554001 => if x83 = true then ((vernierref04_Add.f k x13 (([1] : List Int))).bind fun t587 => (vernierref17_Form_To.j3 k x8 x9 x10 t587 x554000 x554001)) else (vernierref17_Form_To.j3 k x8 x9 x10 x13 x554000 x554001)
def vernierref17_Form_To.j3 : Nat → Int → Int → Int → List Int → Int → Int → Option (Int)
 | 0, _, _, _, _, _, _ => none
 | k + 1, x8, x9, x10, x13, x554000, x554001 => (vernierref04_Word.f k x13).bind fun t590 => (if t590 ≥ x8 then ((vernierref17_Form_exps.f x554000 x554001).bind fun t591 => (if (IntKind.u64.wrap (t590 + (IntKind.u64.wrap (x8 * (IntKind.u64.wrap (wrap64 (x10 - x554001))))))) > (IntKind.u64.wrap (x8 * (IntKind.u64.wrap (t591 - 1)))) then (some (IntKind.u64.wrap (x9 + (IntKind.u64.wrap (x8 * (IntKind.u64.wrap (t591 - 1))))))) else (some (IntKind.u64.wrap (x9 + (IntKind.u64.wrap (t590 + (IntKind.u64.wrap (x8 * (IntKind.u64.wrap (wrap64 (x10 - x554001)))))))))))) else ((vernierref17_Form_exps.f x554000 x554001).bind fun t592 => (if t590 > (IntKind.u64.wrap (x8 * (IntKind.u64.wrap (t592 - 1)))) then (some (IntKind.u64.wrap (x9 + (IntKind.u64.wrap (x8 * (IntKind.u64.wrap (t592 - 1))))))) else (some (IntKind.u64.wrap (x9 + t590))))))
end
def vernierref17_Short.f  : Option (Int × Int) := some (23, (-149))
set_option maxHeartbeats 8000000 in
set_option maxRecDepth 100000 in
theorem vernierref17_Short.calls  (r1 : Int) (r2 : Int) (w : World) (h : vernierref17_Short.f  = some (r1, r2)) :
  Calls Try.prog 23 #[] w fun e w' => e = .returned (.agg #[.int .i64 r1, .int .i64 r2]) ∧ Below w.heap.size w w' := by
 have hu32 := Try.underlying32
 have HB := Aside0.mk (Below.refl w.heap.size w)
 have H : (some (23, (-149))) = some (r1, r2) := h
 clear h
 simp only [Option.some.injEq, Prod.mk.injEq] at H
 obtain ⟨rfl, rfl⟩ := H
 go_enter Try.func23, Try.ntmps23
 go_wp2_with (first | ((with_reducible refine gD (N := 0) rfl ?_); refine bE3 0 #[.int .i64 0, .int .i64 0] 32 ?hr ?_; (case hr => first | (go_simp; done) | (go_simp; rfl)); intro gb611 hg w1 hbox hb; have BK611 := Aside0.mk (hbox); have GW611 := Aside0.mk ((bZ3 hg HB.out)); have GE611 := Aside0.mk ((bZ3 hg HB.out)); replace HB := Aside0.mk (bS3 HB.out hb); clear hb hbox hg; obtain ⟨hcz2_0, hcz2_1, hfz2_0, hfz2_1⟩ := cl2 BK611.out))
 refine bodyPost_ret (results_cell_row rfl _ _ gb611 32 #[.int .i64 23, .int .i64 (-149)] (0, 0) _ rfl (bQ3 BK611.out) Try.underlying32 rfl (by kernel_rfl)) rfl ?_
 exact ⟨eR3, bR3 HB.out⟩
end Go.Proofs.Ytpdpggndhmnggaa.F
