/- Functions of the given program as plain Lean functions, and for each a proof that the program's call comes to just these answers; no further conditions. (Written by a program of this repo out of the translation.) -/
import Derived.Test.YtpdpggndhmnggaaF0c
import Derived.Test.YtpdpggndhmnggaaF16c
import Derived.Test.YtpdpggndhmnggaaF17c
import Derived.Test.YtpdpggndhmnggaaF18c
import Derived.Test.YtpdpggndhmnggaaF20c
namespace Go.Proofs.Ytpdpggndhmnggaa.F
open Go.RowKit Go.Proofs.YtpdpggndhmnggaaW.PrintWords Go.Proofs.YtpdpggndhmnggaaW.PrintLast Go.Proofs.YtpdpggndhmnggaaW.PrintMore
attribute [local go_sem high] xor_u64 xor_u32 eqErr25 neErr25 eqErrL25 neErrL25
attribute [local go_sem] max2_int min2_int max_two min_two max_three min_three max_four min_four   -- for this text's walks alone
set_option linter.unusedVariables false
set_option linter.unusedSimpArgs false
def vernierref17_two.l0 : Nat → Int → Int → Int → Option (Int)
 | 0, _, _, _ => none
 | k + 1, x0, x3, x4 => if x4 < x0 then (vernierref17_two.l0 k x0 (IntKind.u64.wrap (2 * x3)) (wrap64 (x4 + 1))) else (some x3)
def vernierref17_two.f (k : Nat) (a0 : Int) : Option (Int) := vernierref17_two.l0 k a0 1 0
set_option maxHeartbeats 8000000 in
set_option maxRecDepth 100000 in
theorem vernierref17_two.calls (k : Nat) (a0 : Int) (r : Int) (w : World) (h : vernierref17_two.f k a0 = some r) :
  Calls Try.prog 37 #[.int .i64 a0] w fun e w' => e = .returned (.int .u64 r) ∧ Drawn0 w w' := by
 have H : (vernierref17_two.l0 k a0 1 0) = some r := h
 clear h
 have H' := Aside0.mk H
 clear H
 go_enter Try.func37, Try.ntmps37
 go_wp2
 go_loopg [3, 4] k (fun kq v3 v4 w' => ∃ (x3_1 : Int) (x4_1 : Int), v3 = .int .u64 x3_1 ∧ v4 = .int .i64 x4_1 ∧ Aside0 (vernierref17_two.l0 kq a0 x3_1 x4_1 = some r) ∧ Aside0 (kq ≤ k) ∧ Drawn0 w w')
 case atStart => exact ⟨(1), (0), (by first | rfl | (simp; done) | (simp [*]; done)), (by first | rfl | (simp; done) | (simp [*]; done)), H', ⟨Nat.le_refl _⟩, by repeat (first | exact Drawn0.refl _ | apply Drawn0.step)⟩
 case round =>
  clear H'
  obtain ⟨x3_1, x4_1, rfl, rfl, HA, HK1, ⟨m1, rfl⟩⟩ := hrel
  cases gk with
  | zero => exact absurd HA.out (by simp [vernierref17_two.l0])
  | succ k1 =>
   have H := HA.out
   clear HA
   simp only [vernierref17_two.l0] at H
   by_cases c2 : x4_1 < a0
   ·
    rw [if_pos c2] at H
    have c2b0 : decide (x4_1 < a0) = true := decide_eq_true c2
    clear c2
    have H' := Aside0.mk H
    clear H
    go_wp2
    go_roundg k1
    case measure => have := HK1.out; omega
    case rel => exact ⟨(IntKind.u64.wrap (2 * x3_1)), (wrap64 (x4_1 + 1)), (by first | rfl | (simp; done) | (simp [*]; done)), (by first | rfl | (simp; done) | (simp [*]; done)), H', ⟨by have := HK1.out; omega⟩, by repeat (first | exact Drawn0.refl _ | apply Drawn0.step)⟩
   ·
    rw [if_neg c2] at H
    have c2b0 : decide (x4_1 < a0) = false := decide_eq_false c2
    clear c2
    obtain rfl := Option.some.inj H
    go_wp2
    go_ret
    exact ⟨by first | rfl | (simp; done) | (simp [*]; done), by repeat (first | exact Drawn0.refl _ | apply Drawn0.step)⟩
def vernierref17_Form_exps.f (a0_0 : Int) (a0_1 : Int) : Option (Int) := if a0_0 = 52 then (some 2048) else (some 256)
set_option maxHeartbeats 8000000 in
set_option maxRecDepth 100000 in
theorem vernierref17_Form_exps.calls (a0_0 : Int) (a0_1 : Int) (r : Int) (w : World) (h : vernierref17_Form_exps.f a0_0 a0_1 = some r) :
  Calls Try.prog 38 #[.agg #[.int .i64 a0_0, .int .i64 a0_1]] w fun e w' => e = .returned (.int .u64 r) ∧ Below w.heap.size w w' := by
 have hu32 := Try.underlying32
 have HB := Aside0.mk (Below.refl w.heap.size w)
 have H : (if a0_0 = 52 then (some 2048) else (some 256)) = some r := h
 clear h
 by_cases c2 : a0_0 = 52
 ·
  rw [if_pos c2] at H
  have c2b0 : (a0_0 == 52) = true := beq_iff_eq.mpr c2
  have c2b1 : (a0_0 != 52) = false := bne_eq_false_iff_eq.mpr c2
  clear c2
  obtain rfl := Option.some.inj H
  go_enter Try.func38, Try.ntmps38
  go_wp2_with (first | ((with_reducible refine gD (N := 1) rfl ?_); refine bE3 1 #[.int .i64 a0_0, .int .i64 a0_1] 32 ?hr ?_; (case hr => first | (go_simp; done) | (go_simp; rfl)); intro gb336 hg w3 hbox hb; have BK336 := Aside0.mk (hbox); have GW336 := Aside0.mk ((bZ3 hg HB.out)); have GE336 := Aside0.mk ((bZ3 hg HB.out)); replace HB := Aside0.mk (bS3 HB.out hb); clear hb hbox hg; obtain ⟨hcz4_0, hcz4_1, hfz4_0, hfz4_1⟩ := cl2 BK336.out))
  go_ret
  exact ⟨eR3, bR3 HB.out⟩
 ·
  rw [if_neg c2] at H
  have c2b0 : (a0_0 == 52) = false := beq_eq_false_iff_ne.mpr c2
  have c2b1 : (a0_0 != 52) = true := bne_iff_ne.mpr c2
  obtain rfl := Option.some.inj H
  go_enter Try.func38, Try.ntmps38
  go_wp2_with (first | ((with_reducible refine gD (N := 1) rfl ?_); refine bE3 1 #[.int .i64 a0_0, .int .i64 a0_1] 32 ?hr ?_; (case hr => first | (go_simp; done) | (go_simp; rfl)); intro gb336 hg w5 hbox hb; have BK336 := Aside0.mk (hbox); have GW336 := Aside0.mk ((bZ3 hg HB.out)); have GE336 := Aside0.mk ((bZ3 hg HB.out)); replace HB := Aside0.mk (bS3 HB.out hb); clear hb hbox hg; obtain ⟨hcz6_0, hcz6_1, hfz6_0, hfz6_1⟩ := cl2 BK336.out))
  go_ret
  exact ⟨eR3, bR3 HB.out⟩
def vernierref17_Form_From.T7 : Bool × List (List Nat × List Nat) := (true, [([], []), ([], []), ([0, 1], [0, 1]), ([], []), ([3], [3]), ([2, 4], [2, 4]), ([5], [5]), ([6], [6]), ([7, 4, 0, 1, 2, 3, 4, 5, 6, 7], [7])])
def vernierref17_Form_From.B7 : List Nat := [0, 0, 3, 0, 8, 31, 63, 127, 255]
theorem vernierref17_Form_From.tab7 : rtab .any (opsOf Try.f14 7) = vernierref17_Form_From.T7 := by kernel_rfl
theorem vernierref17_Form_From.bits7 : waitsOk vernierref17_Form_From.T7.2 vernierref17_Form_From.B7 = true := by kernel_rfl
mutual
def vernierref17_Form_To.j0 : Nat → Int → Int → Int → Int → Int → Bool → Int → Int → Option (Int)
 | 0, _, _, _, _, _, _, _, _ => none
 | k + 1, x8, x9, x554000, x554001, x559000, x559001, x559002, x559003 => if (wrap64 (x559002 - x554000)) < x554001 then (vernierref17_Form_To.j1 k x8 x9 x554001 x554000 x554001 x559000 x559001 x559002 x559003) else (vernierref17_Form_To.j1 k x8 x9 (wrap64 (x559002 - x554000)) x554000 x554001 x559000 x559001 x559002 x559003)
def vernierref17_Form_To.j1 : Nat → Int → Int → Int → Int → Int → Int → Bool → Int → Int → Option (Int)
 | 0, _, _, _, _, _, _, _, _, _ => none
 | k + 1, x8, x9, x10, x554000, x554001, x559000, x559001, x559002, x559003 => (vernierref04_Of.f k x559003).bind fun t561 => ((vernierref04_Shr.f k t561 (wrap64 (-(wrap64 ((wrap64 (x559002 - 63)) - x10))))).bind fun t564 => ((vernierref04_Shl.f k t564 (wrap64 (-(wrap64 ((wrap64 (x559002 - 63)) - x10))))).bind fun t567 => ((vernierref04_Sub.f k t561 t567).bind fun t570 => ((vernierref04_Shl.f k (([1] : List Int)) (wrap64 (-(wrap64 ((wrap64 (x559002 - 63)) - x10))))).bind fun t576 => ((vernierref04_Add.f k t570 t570).bind fun t579 => ((vernierref04_Cmp.f k t579 t576).bind fun t582 => ((vernierref04_Low.f k t564 1).bind fun t583 => (if t582 > 0 then (vernierref17_Form_To.j2 k x8 x9 x10 t564 true x554000 x554001) else (if t582 = 0 then (vernierref17_Form_To.j2 k x8 x9 x10 t564 t583 x554000 x554001) else (vernierref17_Form_To.j2 k x8 x9 x10 t564 false x554000 x554001))))))))))
def vernierref17_Form_To.j2 : Nat → Int → Int → Int → List Int → Bool → Int → Int → Option (Int)
 | 0, _, _, _, _, _, _, _ => none
 | k + 1, x8, x9, x10, x13, x83, x554000, x554001 => if x83 = true then ((vernierref04_Add.f k x13 (([1] : List Int))).bind fun t587 => (vernierref17_Form_To.j3 k x8 x9 x10 t587 x554000 x554001)) else (vernierref17_Form_To.j3 k x8 x9 x10 x13 x554000 x554001)
def vernierref17_Form_To.j3 : Nat → Int → Int → Int → List Int → Int → Int → Option (Int)
 | 0, _, _, _, _, _, _ => none
 | k + 1, x8, x9, x10, x13, x554000, x554001 => (vernierref04_Word.f k x13).bind fun t590 => (if t590 ≥ x8 then ((vernierref17_Form_exps.f x554000 x554001).bind fun t591 => (if (IntKind.u64.wrap (t590 + (IntKind.u64.wrap (x8 * (IntKind.u64.wrap (wrap64 (x10 - x554001))))))) > (IntKind.u64.wrap (x8 * (IntKind.u64.wrap (t591 - 1)))) then (some (IntKind.u64.wrap (x9 + (IntKind.u64.wrap (x8 * (IntKind.u64.wrap (t591 - 1))))))) else (some (IntKind.u64.wrap (x9 + (IntKind.u64.wrap (t590 + (IntKind.u64.wrap (x8 * (IntKind.u64.wrap (wrap64 (x10 - x554001)))))))))))) else ((vernierref17_Form_exps.f x554000 x554001).bind fun t592 => (if t590 > (IntKind.u64.wrap (x8 * (IntKind.u64.wrap (t592 - 1)))) then (some (IntKind.u64.wrap (x9 + (IntKind.u64.wrap (x8 * (IntKind.u64.wrap (t592 - 1))))))) else (some (IntKind.u64.wrap (x9 + t590))))))
end
def vernierref17_Form_To.f (k : Nat) (a0_0 : Int) (a0_1 : Int) (a1 : Int) (a2 : Int) : Option (Int) := (vernierref06_Decode.f k a1 a2).bind fun bt554 => (if bt554.1 = 1 then ((vernierref17_two.f k a0_0).bind fun t559 => (if bt554.2.1 = true then ((vernierref17_Form_exps.f a0_0 a0_1).bind fun t560 => (vernierref17_Form_To.j0 k t559 (IntKind.u64.wrap (t559 * t560)) a0_0 a0_1 bt554.1 bt554.2.1 bt554.2.2.1 bt554.2.2.2)) else (vernierref17_Form_To.j0 k t559 0 a0_0 a0_1 bt554.1 bt554.2.1 bt554.2.2.1 bt554.2.2.2))) else (some 0))
set_option maxHeartbeats 8000000 in
set_option maxRecDepth 100000 in
theorem vernierref17_Form_To.calls (k : Nat) (a0_0 : Int) (a0_1 : Int) (a1 : Int) (a2 : Int) (r : Int) (w : World) (h : vernierref17_Form_To.f k a0_0 a0_1 a1 a2 = some r) :
  Calls Try.prog 20 #[.agg #[.int .i64 a0_0, .int .i64 a0_1], .int .i64 a1, .int .u64 a2] w fun e w' => e = .returned (.int .u64 r) ∧ Below w.heap.size w w' := by
 have hu32 := Try.underlying32
 have hu42 := Try.underlying42
 have HB := Aside0.mk (Below.refl w.heap.size w)
 have H : ((vernierref06_Decode.f k a1 a2).bind fun bt554 => (if bt554.1 = 1 then ((vernierref17_two.f k a0_0).bind fun t559 => (if bt554.2.1 = true then ((vernierref17_Form_exps.f a0_0 a0_1).bind fun t560 => (vernierref17_Form_To.j0 k t559 (IntKind.u64.wrap (t559 * t560)) a0_0 a0_1 bt554.1 bt554.2.1 bt554.2.2.1 bt554.2.2.2)) else (vernierref17_Form_To.j0 k t559 0 a0_0 a0_1 bt554.1 bt554.2.1 bt554.2.2.1 bt554.2.2.2))) else (some 0))) = some r := h
 clear h
 replace H := Option.bind_eq_some_iff.mp H
 obtain ⟨⟨t554, t555, t556, t557⟩, A40, H⟩ := H
 try dsimp -simprocs only at H
 have A4 := Aside0.mk A40
 clear A40
 by_cases c5 : t554 = 1
 ·
  rw [if_pos c5] at H
  have c5b0 : (t554 == 1) = true := beq_iff_eq.mpr c5
  have c5b1 : (t554 != 1) = false := bne_eq_false_iff_eq.mpr c5
  clear c5
  replace H := Option.bind_eq_some_iff.mp H
  obtain ⟨t559, A60, H⟩ := H
  try dsimp -simprocs only at H
  have A6 := Aside0.mk A60
  clear A60
  have HC7 := Aside0.mk H
  clear H
  go_enter Try.func20, Try.ntmps20
  go_upto_if 30 with (first | ((with_reducible refine gD (N := 3) rfl ?_); refine bE3 3 #[.int .i64 a0_0, .int .i64 a0_1] 32 ?hr ?_; (case hr => first | (go_simp; done) | (go_simp; rfl)); intro gb553 hg w8 hbox hb; have BK553 := Aside0.mk (hbox); have GW553 := Aside0.mk ((bZ3 hg HB.out)); have GE553 := Aside0.mk ((bZ3 hg HB.out)); replace HB := Aside0.mk (bS3 HB.out hb); clear hb hbox hg) | ((with_reducible refine gX_ 18 22 rfl rfl ?_); refine goesY_ (some 22) Try.func18 #[.int .i64 a1, .int .u64 a2] ?_; (with_reducible refine (vernierref06_Decode.calls k a1 a2 t554 t555 t556 t557 _ A4.out).mono ?_); rintro e w9 ⟨rfl, hb⟩; refine ⟨_, rfl, ?_⟩; replace BK553 := Aside0.mk (bB3 BK553.out hb); replace HB := Aside0.mk (bS3 HB.out hb); (try clear hb); (try clear hk)) | ((with_reducible refine gD (N := 7) rfl ?_); refine bE3 7 #[.int .i64 0, .bool false, .int .i64 0, .int .u64 0] 42 ?hr ?_; (case hr => first | (go_simp; done) | (go_simp; rfl)); intro gb558 hg w10 hbox hb; have BK558 := Aside0.mk (hbox); have GW558 := Aside0.mk ((bZ3 hg HB.out)); have GE558 := Aside0.mk ((bZ3 hg HB.out)); replace HB := Aside0.mk (bS3 HB.out hb); have NB553_558 := Aside0.mk ((bL3 hg BK553.out)); have NB558_553 := Aside0.mk ((bG3 hg BK553.out)); replace BK553 := Aside0.mk (bB3 BK553.out hb); clear hb hbox hg; have hnb11 := NB558_553.out; have hnc11 := NB553_558.out; obtain ⟨hcz12_0, hcz12_1, hcz12_2, hcz12_3, hfz12_0, hfz12_1, hfz12_2, hfz12_3⟩ := cl4 BK558.out; obtain ⟨hcz13_0, hcz13_1, hfz13_0, hfz13_1⟩ := cl2 BK553.out) | ((with_reducible refine gX_ 37 28 rfl rfl ?_); refine goesY_ (some 28) Try.func37 #[.int .i64 a0_0] ?_; (with_reducible refine (vernierref17_two.calls k a0_0 t559 _ A6.out).mono ?_); rintro e w' ⟨rfl, ⟨nd, rfl⟩⟩; refine ⟨_, rfl, ?_⟩))
  (try simp only [Act.put, lS_, lZ_, lC_])
  go_cut [9] (fun v9 wc => ∃ (kq : Nat) (x9_6 : Int), v9 = .int .u64 x9_6 ∧ Aside0 (vernierref17_Form_To.j0 kq t559 x9_6 a0_0 a0_1 t554 t555 t556 t557 = some r) ∧ Aside0 (kq ≤ k) ∧ Aside0 (wc.heap[gb553]? = some (.cells #[.int .i64 a0_0, .int .i64 a0_1] 32 (0, 0))) ∧ Aside0 (wc.heap[gb558]? = some (.cells #[.int .i64 t554, .bool t555, .int .i64 t556, .int .u64 t557] 42 (0, 0))) ∧ Aside0 (Below w.heap.size w wc))
  case first =>
   have H := HC7.out
   clear HC7
   by_cases c14 : t555 = true
   ·
    subst c14
    rw [if_pos rfl] at H
    replace H := Option.bind_eq_some_iff.mp H
    obtain ⟨t560, A150, H⟩ := H
    try dsimp -simprocs only at H
    have A15 := Aside0.mk A150
    clear A150
    have H' := Aside0.mk H
    clear H
    have hnb16 := NB553_558.out
    have hnc16 := NB558_553.out
    obtain ⟨hcz17_0, hcz17_1, hfz17_0, hfz17_1⟩ := cl2 BK553.out
    go_wp2_with (first | ((with_reducible refine gX_ 38 33 rfl rfl ?_); refine goesY_ (some 33) Try.func38 #[.agg #[.int .i64 a0_0, .int .i64 a0_1]] ?_; (with_reducible refine (vernierref17_Form_exps.calls a0_0 a0_1 t560 _ A15.out).mono ?_); rintro e w18 ⟨rfl, hb⟩; refine ⟨_, rfl, ?_⟩; replace BK553 := Aside0.mk (bB (g := gb553) (o := .cells #[.int .i64 a0_0, .int .i64 a0_1] 32 (0, 0)) (bQ3 BK553.out) hb); replace BK558 := Aside0.mk (bB (g := gb558) (o := .cells #[.int .i64 t554, .bool true, .int .i64 t556, .int .u64 t557] 42 (0, 0)) (bQ3 BK558.out) hb); replace HB := Aside0.mk (bS3 HB.out hb); (try clear hb); (try clear hk)))
    go_meet
    case rel => exact ⟨_, (IntKind.u64.wrap (t559 * t560)), (by first | rfl | (simp; done) | (simp [*]; done)), H', ⟨by first | omega | exact Nat.le_refl _⟩, ⟨bK3 BK553.out⟩, ⟨bK3 BK558.out⟩, ⟨bR3 HB.out⟩⟩
   ·
    replace c14 := Bool.eq_false_iff.mpr c14
    subst c14
    rw [if_neg (show ¬ (false = true) by decide)] at H
    have H' := Aside0.mk H
    clear H
    go_wp2
    go_meet
    case rel => exact ⟨_, (0), (by first | rfl | (simp; done) | (simp [*]; done)), H', ⟨by first | omega | exact Nat.le_refl _⟩, ⟨bQ3 BK553.out⟩, ⟨bQ3 BK558.out⟩, ⟨bR3 HB.out⟩⟩
  case rest =>
   clear HC7
   try clear c1
   try clear c2
   try clear p2
   try clear c3
   try clear c5
   try clear c5b0
   try clear c5b1
   try clear c11
   try clear c14
   try clear c16
   try clear c18
   try clear hcz12_0 hcz12_1 hcz12_2 hcz12_3
   try clear hcz13_0 hcz13_1
   try clear hcz17_0 hcz17_1
   try clear hfz12_0 hfz12_1 hfz12_2 hfz12_3
   try clear hfz13_0 hfz13_1
   try clear hfz17_0 hfz17_1
   obtain ⟨kq, x9_6, rfl, HA, HJ6, BK553, BK558, HB⟩ := hcut
   cases kq with
   | zero => exact absurd HA.out (by simp [vernierref17_Form_To.j0])
   | succ kj6 =>
    have H := HA.out
    clear HA
    simp only [vernierref17_Form_To.j0] at H
    have HC19 := Aside0.mk H
    clear H
    have hnb20 := NB558_553.out
    have hnc20 := NB553_558.out
    obtain ⟨hcz21_0, hcz21_1, hcz21_2, hcz21_3, hfz21_0, hfz21_1, hfz21_2, hfz21_3⟩ := cl4 BK558.out
    obtain ⟨hcz22_0, hcz22_1, hfz22_0, hfz22_1⟩ := cl2 BK553.out
    go_upto_if 43 with (fail)
    go_cut [10] (fun v10 wc => ∃ (kq : Nat) (x10_18 : Int), v10 = .int .i64 x10_18 ∧ Aside0 (vernierref17_Form_To.j1 kq t559 x9_6 x10_18 a0_0 a0_1 t554 t555 t556 t557 = some r) ∧ Aside0 (kq ≤ kj6) ∧ Aside0 (wc.heap[gb553]? = some (.cells #[.int .i64 a0_0, .int .i64 a0_1] 32 (0, 0))) ∧ Aside0 (wc.heap[gb558]? = some (.cells #[.int .i64 t554, .bool t555, .int .i64 t556, .int .u64 t557] 42 (0, 0))) ∧ Aside0 (Below w.heap.size w wc))
    case first =>
     have H := HC19.out
     clear HC19
     by_cases c23 : (wrap64 (t556 - a0_0)) < a0_1
     ·
      rw [if_pos c23] at H
      have c23b0 : decide ((wrap64 (t556 - a0_0)) < a0_1) = true := decide_eq_true c23
      clear c23
      (first | rw [c23b0] | (simp only [i64_w, i32_w]; rw [c23b0]) | skip)
      have H' := Aside0.mk H
      clear H
      have hnb24 := NB553_558.out
      have hnc24 := NB558_553.out
      obtain ⟨hcz25_0, hcz25_1, hfz25_0, hfz25_1⟩ := cl2 BK553.out
      go_wp2
      go_meet
      case rel => exact ⟨_, (a0_1), (by first | rfl | (simp; done) | (simp [*]; done)), H', ⟨by have := HJ6.out; first | omega | exact Nat.le_refl _⟩, ⟨bK3 BK553.out⟩, ⟨bK3 BK558.out⟩, ⟨bR3 HB.out⟩⟩
     ·
      rw [if_neg c23] at H
      have c23b0 : decide ((wrap64 (t556 - a0_0)) < a0_1) = false := decide_eq_false c23
      clear c23
      (first | rw [c23b0] | (simp only [i64_w, i32_w]; rw [c23b0]) | skip)
      have H' := Aside0.mk H
      clear H
      go_wp2
      go_meet
      case rel => exact ⟨_, (wrap64 (t556 - a0_0)), (by first | rfl | (simp; done) | (simp [*]; done)), H', ⟨by have := HJ6.out; first | omega | exact Nat.le_refl _⟩, ⟨bK3 BK553.out⟩, ⟨bK3 BK558.out⟩, ⟨bR3 HB.out⟩⟩
    case rest =>
     clear HC19
     try clear c1
     try clear c2
     try clear p2
     try clear c3
     try clear c5
     try clear c5b0
     try clear c5b1
     try clear p6
     try clear c11
     try clear c14
     try clear c16
     try clear c18
     try clear c20
     try clear c23
     try clear c23b0
     try clear c24
     try clear hcz12_0 hcz12_1 hcz12_2 hcz12_3
     try clear hcz13_0 hcz13_1
     try clear hcz17_0 hcz17_1
     try clear hcz21_0 hcz21_1 hcz21_2 hcz21_3
     try clear hcz22_0 hcz22_1
     try clear hcz25_0 hcz25_1
     try clear hfz12_0 hfz12_1 hfz12_2 hfz12_3
     try clear hfz13_0 hfz13_1
     try clear hfz17_0 hfz17_1
     try clear hfz21_0 hfz21_1 hfz21_2 hfz21_3
     try clear hfz22_0 hfz22_1
     try clear hfz25_0 hfz25_1
     try clear p2
     obtain ⟨kq, x10_18, rfl, HA, HJ18, BK553, BK558, HB⟩ := hcut
     cases kq with
     | zero => exact absurd HA.out (by simp [vernierref17_Form_To.j1])
     | succ kj18 =>
      have H := HA.out
      clear HA
      simp only [vernierref17_Form_To.j1] at H
      replace H := Option.bind_eq_some_iff.mp H
      obtain ⟨t561, A260, H⟩ := H
      try dsimp -simprocs only at H
      have A26 := Aside0.mk A260
      clear A260
      replace H := Option.bind_eq_some_iff.mp H
      obtain ⟨t564, A270, H⟩ := H
      try dsimp -simprocs only at H
      have A27 := Aside0.mk A270
      clear A270
      replace H := Option.bind_eq_some_iff.mp H
      obtain ⟨t567, A280, H⟩ := H
      try dsimp -simprocs only at H
      have A28 := Aside0.mk A280
      clear A280
      replace H := Option.bind_eq_some_iff.mp H
      obtain ⟨t570, A290, H⟩ := H
      try dsimp -simprocs only at H
      have A29 := Aside0.mk A290
      clear A290
      obtain ⟨y573, hy573⟩ : ∃ y_ : List Int, y_ = (([1] : List Int)) := ⟨_, rfl⟩
      replace H : ((vernierref04_Shl.f kj18 y573 (wrap64 (-(wrap64 ((wrap64 (t556 - 63)) - x10_18))))).bind fun t576 => ((vernierref04_Add.f kj18 t570 t570).bind fun t579 => ((vernierref04_Cmp.f kj18 t579 t576).bind fun t582 => ((vernierref04_Low.f kj18 t564 1).bind fun t583 => (if t582 > 0 then (vernierref17_Form_To.j2 kj18 t559 x9_6 x10_18 t564 true a0_0 a0_1) else (if t582 = 0 then (vernierref17_Form_To.j2 kj18 t559 x9_6 x10_18 t564 t583 a0_0 a0_1) else (vernierref17_Form_To.j2 kj18 t559 x9_6 x10_18 t564 false a0_0 a0_1))))))) = some r := by first | (rw [hy573]; with_reducible exact H) | (have H2_ := (Option.bind_some _ _).symm.trans H; rw [hy573]; with_reducible exact H2_) | (have H2_ := (Option.bind_some _ _).symm.trans H; with_reducible exact H2_) | with_reducible exact H | (rw [hy573]; exact H) | exact H
      have Ny573 := Aside0.mk hy573
      clear hy573
      replace H := Option.bind_eq_some_iff.mp H
      obtain ⟨t576, A300, H⟩ := H
      try dsimp -simprocs only at H
      have A30 := Aside0.mk A300
      clear A300
      replace H := Option.bind_eq_some_iff.mp H
      obtain ⟨t579, A310, H⟩ := H
      try dsimp -simprocs only at H
      have A31 := Aside0.mk A310
      clear A310
      replace H := Option.bind_eq_some_iff.mp H
      obtain ⟨t582, A320, H⟩ := H
      try dsimp -simprocs only at H
      have A32 := Aside0.mk A320
      clear A320
      replace H := Option.bind_eq_some_iff.mp H
      obtain ⟨t583, A330, H⟩ := H
      try dsimp -simprocs only at H
      have A33 := Aside0.mk A330
      clear A330
      have HC34 := Aside0.mk H
      clear H
      have hnb35 := NB558_553.out
      have hnc35 := NB553_558.out
      obtain ⟨hcz36_0, hcz36_1, hcz36_2, hcz36_3, hfz36_0, hfz36_1, hfz36_2, hfz36_3⟩ := cl4 BK558.out
      go_upto_region 18 with (first | ((with_reducible refine gX_ 41 48 rfl rfl ?_); refine goesY_ (some 48) Try.func41 #[.int .u64 t557] ?_; (with_reducible refine (vernierref04_Of.calls kj18 t557 t561 _ A26.out).mono ?_); rintro e w37 ⟨v562, rfl, ho0, hb⟩; refine ⟨_, rfl, ?_⟩; have HO563 := Aside0.mk (Kd.R_lower ho0 (bZ (bR3 HB.out))); replace BK553 := Aside0.mk (bB3 BK553.out hb); replace BK558 := Aside0.mk (bB3 BK558.out hb); replace HB := Aside0.mk (bS3 HB.out hb); (try clear hb); (try clear hk); (try clear ho0); obtain ⟨hcz38_0, hcz38_1, hcz38_2, hcz38_3, hfz38_0, hfz38_1, hfz38_2, hfz38_3⟩ := cl4 BK558.out; obtain ⟨Ao39, co39, eo39⟩ := Kd.R_slice HO563.out; subst eo39) | ((with_reducible refine gX_ 48 57 rfl rfl ?_); refine goesY_ (some 57) Try.func48 #[.slice Ao39 t561.length co39, .int .i64 (wrap64 (-(wrap64 ((wrap64 (t556 - 63)) - x10_18))))] ?_; (with_reducible refine (vernierref04_Shr.calls kj18 _ _ t561 (wrap64 (-(wrap64 ((wrap64 (t556 - 63)) - x10_18)))) t564 _ ?side1 ?side2 A27.out).mono ?_); (case side1 => repeat (first | exact (Kd.R_reads' HO563.out).2.2 | (with_reducible refine Kd.C_alloc ?_ _) | (with_reducible refine Kd.C_drewN ?_ _) | (with_reducible refine Kd.C_drew ?_))); (case side2 => exact (Kd.R_reads' HO563.out).2.1); rintro e w40 ⟨v565, rfl, ho0, hb⟩; refine ⟨_, rfl, ?_⟩; have HO566 := Aside0.mk (Kd.R_lower (Kd.R_new' ho0 (Kd.R_lt (by (with_reducible repeat (first | apply Kd.R_alloc | apply Kd.R_drewN | apply Kd.R_drew)); exact HO563.out))) (bZ (bR3 HB.out))); replace HO563 := Aside0.mk (Kd.R_elder' (by (with_reducible repeat (first | apply Kd.R_alloc | apply Kd.R_drewN | apply Kd.R_drew)); exact HO563.out) (Kd.R_base ho0) hb); replace BK553 := Aside0.mk (bB3 BK553.out hb); replace BK558 := Aside0.mk (bB3 BK558.out hb); replace HB := Aside0.mk (bS3 HB.out hb); (try clear hb); (try clear hk); (try clear ho0); obtain ⟨Ao41, co41, eo41⟩ := Kd.R_slice HO566.out; subst eo41) | ((with_reducible refine gX_ 50 62 rfl rfl ?_); refine goesY_ (some 62) Try.func50 #[.slice Ao41 t564.length co41, .int .i64 (wrap64 (-(wrap64 ((wrap64 (t556 - 63)) - x10_18))))] ?_; (with_reducible refine (vernierref04_Shl.calls kj18 _ _ t564 (wrap64 (-(wrap64 ((wrap64 (t556 - 63)) - x10_18)))) t567 _ ?side1 ?side2 A28.out).mono ?_); (case side1 => repeat (first | exact (Kd.R_reads' HO566.out).2.2 | (with_reducible refine Kd.C_alloc ?_ _) | (with_reducible refine Kd.C_drewN ?_ _) | (with_reducible refine Kd.C_drew ?_))); (case side2 => exact (Kd.R_reads' HO566.out).2.1); rintro e w42 ⟨v568, rfl, ho0, hb⟩; refine ⟨_, rfl, ?_⟩; have HO569 := Aside0.mk (Kd.R_lower (Kd.R_new' (Kd.R_new' ho0 (Kd.R_lt (by (with_reducible repeat (first | apply Kd.R_alloc | apply Kd.R_drewN | apply Kd.R_drew)); exact HO563.out))) (Kd.R_lt (by (with_reducible repeat (first | apply Kd.R_alloc | apply Kd.R_drewN | apply Kd.R_drew)); exact HO566.out))) (bZ (bR3 HB.out))); replace HO563 := Aside0.mk (Kd.R_elder' (by (with_reducible repeat (first | apply Kd.R_alloc | apply Kd.R_drewN | apply Kd.R_drew)); exact HO563.out) (Kd.R_base ho0) hb); replace HO566 := Aside0.mk (Kd.R_elder' (by (with_reducible repeat (first | apply Kd.R_alloc | apply Kd.R_drewN | apply Kd.R_drew)); exact HO566.out) (Kd.R_base ho0) hb); replace BK553 := Aside0.mk (bB3 BK553.out hb); replace BK558 := Aside0.mk (bB3 BK558.out hb); replace HB := Aside0.mk (bS3 HB.out hb); (try clear hb); (try clear hk); (try clear ho0); obtain ⟨Ao43, co43, eo43⟩ := Kd.R_slice HO569.out; subst eo43) | ((with_reducible refine gX_ 49 63 rfl rfl ?_); refine goesY_ (some 63) Try.func49 #[.slice Ao39 t561.length co39, .slice Ao43 t567.length co43] ?_; (with_reducible refine (vernierref04_Sub.calls kj18 _ _ t561 _ _ t567 t570 _ ?side1 ?side2 ?side3 ?side4 A29.out).mono ?_); (case side1 => repeat (first | exact (Kd.R_reads' HO563.out).2.2 | (with_reducible refine Kd.C_alloc ?_ _) | (with_reducible refine Kd.C_drewN ?_ _) | (with_reducible refine Kd.C_drew ?_))); (case side2 => exact (Kd.R_reads' HO563.out).2.1); (case side3 => repeat (first | exact (Kd.R_reads' HO569.out).2.2 | (with_reducible refine Kd.C_alloc ?_ _) | (with_reducible refine Kd.C_drewN ?_ _) | (with_reducible refine Kd.C_drew ?_))); (case side4 => exact (Kd.R_reads' HO569.out).2.1); rintro e w44 ⟨v571, rfl, ho0, hb⟩; refine ⟨_, rfl, ?_⟩; have HO572 := Aside0.mk (Kd.R_lower (Kd.R_new' (Kd.R_new' (Kd.R_new' ho0 (Kd.R_lt (by (with_reducible repeat (first | apply Kd.R_alloc | apply Kd.R_drewN | apply Kd.R_drew)); exact HO563.out))) (Kd.R_lt (by (with_reducible repeat (first | apply Kd.R_alloc | apply Kd.R_drewN | apply Kd.R_drew)); exact HO566.out))) (Kd.R_lt (by (with_reducible repeat (first | apply Kd.R_alloc | apply Kd.R_drewN | apply Kd.R_drew)); exact HO569.out))) (bZ (bR3 HB.out))); replace HO563 := Aside0.mk (Kd.R_elder' (by (with_reducible repeat (first | apply Kd.R_alloc | apply Kd.R_drewN | apply Kd.R_drew)); exact HO563.out) (Kd.R_base ho0) hb); replace HO566 := Aside0.mk (Kd.R_elder' (by (with_reducible repeat (first | apply Kd.R_alloc | apply Kd.R_drewN | apply Kd.R_drew)); exact HO566.out) (Kd.R_base ho0) hb); replace HO569 := Aside0.mk (Kd.R_elder' (by (with_reducible repeat (first | apply Kd.R_alloc | apply Kd.R_drewN | apply Kd.R_drew)); exact HO569.out) (Kd.R_base ho0) hb); replace BK553 := Aside0.mk (bB3 BK553.out hb); replace BK558 := Aside0.mk (bB3 BK558.out hb); replace HB := Aside0.mk (bS3 HB.out hb); (try clear hb); (try clear hk); (try clear ho0)) | ((with_reducible refine gD (N := 64) rfl ?_); refine Kd.R_lit (Kd.int .i64) _ 3 ?hg (N := 64) ?hd (xs := ([1] : List Int)) (inner := [.int .i64 1]) (ok := fun _ => True) (okp := fun _ => True) ?hr ?hp (fun _ hk => hk) trivial (Below.refl _ _) (Nat.le_refl _) (by simp) ?_; (case hd => rfl); (case hg => rfl); (case hr => first | (go_simp; done) | (go_simp; rfl)); (case hp => exact (Reps.one (show Kd.M (Kd.int .i64) _ _ _ 1 [.int .i64 1] from rfl) (Reps.none _ _))); intro v574 w45 ho46 hb hg_ hnew_; clear hg_ hnew_; (first | rw [← Ny573.out] at ho46 | (simp only [Int.reduceToNat] at ho46; rw [← Ny573.out] at ho46)); have HO575 := Aside0.mk (Kd.R_lower (Kd.R_new' (Kd.R_new' (Kd.R_new' (Kd.R_new' ho46 (Kd.R_lt (by (with_reducible repeat (first | apply Kd.R_alloc | apply Kd.R_drewN | apply Kd.R_drew)); exact HO563.out))) (Kd.R_lt (by (with_reducible repeat (first | apply Kd.R_alloc | apply Kd.R_drewN | apply Kd.R_drew)); exact HO566.out))) (Kd.R_lt (by (with_reducible repeat (first | apply Kd.R_alloc | apply Kd.R_drewN | apply Kd.R_drew)); exact HO569.out))) (Kd.R_lt (by (with_reducible repeat (first | apply Kd.R_alloc | apply Kd.R_drewN | apply Kd.R_drew)); exact HO572.out))) (bZ (bR3 HB.out))); replace HO563 := Aside0.mk (Kd.R_elder' (by (with_reducible repeat (first | apply Kd.R_alloc | apply Kd.R_drewN | apply Kd.R_drew)); exact HO563.out) (Kd.R_base ho46) hb); replace HO566 := Aside0.mk (Kd.R_elder' (by (with_reducible repeat (first | apply Kd.R_alloc | apply Kd.R_drewN | apply Kd.R_drew)); exact HO566.out) (Kd.R_base ho46) hb); replace HO569 := Aside0.mk (Kd.R_elder' (by (with_reducible repeat (first | apply Kd.R_alloc | apply Kd.R_drewN | apply Kd.R_drew)); exact HO569.out) (Kd.R_base ho46) hb); replace HO572 := Aside0.mk (Kd.R_elder' (by (with_reducible repeat (first | apply Kd.R_alloc | apply Kd.R_drewN | apply Kd.R_drew)); exact HO572.out) (Kd.R_base ho46) hb); replace BK553 := Aside0.mk (bB3 BK553.out hb); replace BK558 := Aside0.mk (bB3 BK558.out hb); replace HB := Aside0.mk (bS3 HB.out hb); clear hb ho46; obtain ⟨Ao47, co47, eo47⟩ := Kd.R_slice HO575.out; subst eo47) | ((with_reducible refine gX_ 50 67 rfl rfl ?_); refine goesY_ (some 67) Try.func50 #[.slice Ao47 y573.length co47, .int .i64 (wrap64 (-(wrap64 ((wrap64 (t556 - 63)) - x10_18))))] ?_; (with_reducible refine (vernierref04_Shl.calls kj18 _ _ y573 (wrap64 (-(wrap64 ((wrap64 (t556 - 63)) - x10_18)))) t576 _ ?side1 ?side2 A30.out).mono ?_); (case side1 => repeat (first | exact (Kd.R_reads' HO575.out).2.2 | (with_reducible refine Kd.C_alloc ?_ _) | (with_reducible refine Kd.C_drewN ?_ _) | (with_reducible refine Kd.C_drew ?_))); (case side2 => exact (Kd.R_reads' HO575.out).2.1); rintro e w48 ⟨v577, rfl, ho0, hb⟩; refine ⟨_, rfl, ?_⟩; have HO578 := Aside0.mk (Kd.R_lower (Kd.R_new' (Kd.R_new' (Kd.R_new' (Kd.R_new' (Kd.R_new' ho0 (Kd.R_lt (by (with_reducible repeat (first | apply Kd.R_alloc | apply Kd.R_drewN | apply Kd.R_drew)); exact HO563.out))) (Kd.R_lt (by (with_reducible repeat (first | apply Kd.R_alloc | apply Kd.R_drewN | apply Kd.R_drew)); exact HO566.out))) (Kd.R_lt (by (with_reducible repeat (first | apply Kd.R_alloc | apply Kd.R_drewN | apply Kd.R_drew)); exact HO569.out))) (Kd.R_lt (by (with_reducible repeat (first | apply Kd.R_alloc | apply Kd.R_drewN | apply Kd.R_drew)); exact HO572.out))) (Kd.R_lt (by (with_reducible repeat (first | apply Kd.R_alloc | apply Kd.R_drewN | apply Kd.R_drew)); exact HO575.out))) (bZ (bR3 HB.out))); replace HO563 := Aside0.mk (Kd.R_elder' (by (with_reducible repeat (first | apply Kd.R_alloc | apply Kd.R_drewN | apply Kd.R_drew)); exact HO563.out) (Kd.R_base ho0) hb); replace HO566 := Aside0.mk (Kd.R_elder' (by (with_reducible repeat (first | apply Kd.R_alloc | apply Kd.R_drewN | apply Kd.R_drew)); exact HO566.out) (Kd.R_base ho0) hb); replace HO569 := Aside0.mk (Kd.R_elder' (by (with_reducible repeat (first | apply Kd.R_alloc | apply Kd.R_drewN | apply Kd.R_drew)); exact HO569.out) (Kd.R_base ho0) hb); replace HO572 := Aside0.mk (Kd.R_elder' (by (with_reducible repeat (first | apply Kd.R_alloc | apply Kd.R_drewN | apply Kd.R_drew)); exact HO572.out) (Kd.R_base ho0) hb); replace HO575 := Aside0.mk (Kd.R_elder' (by (with_reducible repeat (first | apply Kd.R_alloc | apply Kd.R_drewN | apply Kd.R_drew)); exact HO575.out) (Kd.R_base ho0) hb); replace BK553 := Aside0.mk (bB3 BK553.out hb); replace BK558 := Aside0.mk (bB3 BK558.out hb); replace HB := Aside0.mk (bS3 HB.out hb); (try clear hb); (try clear hk); (try clear ho0); obtain ⟨Ao49, co49, eo49⟩ := Kd.R_slice HO572.out; subst eo49) | ((with_reducible refine gX_ 52 70 rfl rfl ?_); refine goesY_ (some 70) Try.func52 #[.slice Ao49 t570.length co49, .slice Ao49 t570.length co49] ?_; (with_reducible refine (vernierref04_Add.calls kj18 _ _ t570 _ _ t570 t579 _ ?side1 ?side2 ?side3 ?side4 A31.out).mono ?_); (case side1 => repeat (first | exact (Kd.R_reads' HO572.out).2.2 | (with_reducible refine Kd.C_alloc ?_ _) | (with_reducible refine Kd.C_drewN ?_ _) | (with_reducible refine Kd.C_drew ?_))); (case side2 => exact (Kd.R_reads' HO572.out).2.1); (case side3 => repeat (first | exact (Kd.R_reads' HO572.out).2.2 | (with_reducible refine Kd.C_alloc ?_ _) | (with_reducible refine Kd.C_drewN ?_ _) | (with_reducible refine Kd.C_drew ?_))); (case side4 => exact (Kd.R_reads' HO572.out).2.1); rintro e w50 ⟨v580, rfl, ho0, hb⟩; refine ⟨_, rfl, ?_⟩; have HO581 := Aside0.mk (Kd.R_lower (Kd.R_new' (Kd.R_new' (Kd.R_new' (Kd.R_new' (Kd.R_new' (Kd.R_new' ho0 (Kd.R_lt (by (with_reducible repeat (first | apply Kd.R_alloc | apply Kd.R_drewN | apply Kd.R_drew)); exact HO563.out))) (Kd.R_lt (by (with_reducible repeat (first | apply Kd.R_alloc | apply Kd.R_drewN | apply Kd.R_drew)); exact HO566.out))) (Kd.R_lt (by (with_reducible repeat (first | apply Kd.R_alloc | apply Kd.R_drewN | apply Kd.R_drew)); exact HO569.out))) (Kd.R_lt (by (with_reducible repeat (first | apply Kd.R_alloc | apply Kd.R_drewN | apply Kd.R_drew)); exact HO572.out))) (Kd.R_lt (by (with_reducible repeat (first | apply Kd.R_alloc | apply Kd.R_drewN | apply Kd.R_drew)); exact HO575.out))) (Kd.R_lt (by (with_reducible repeat (first | apply Kd.R_alloc | apply Kd.R_drewN | apply Kd.R_drew)); exact HO578.out))) (bZ (bR3 HB.out))); replace HO563 := Aside0.mk (Kd.R_elder' (by (with_reducible repeat (first | apply Kd.R_alloc | apply Kd.R_drewN | apply Kd.R_drew)); exact HO563.out) (Kd.R_base ho0) hb); replace HO566 := Aside0.mk (Kd.R_elder' (by (with_reducible repeat (first | apply Kd.R_alloc | apply Kd.R_drewN | apply Kd.R_drew)); exact HO566.out) (Kd.R_base ho0) hb); replace HO569 := Aside0.mk (Kd.R_elder' (by (with_reducible repeat (first | apply Kd.R_alloc | apply Kd.R_drewN | apply Kd.R_drew)); exact HO569.out) (Kd.R_base ho0) hb); replace HO572 := Aside0.mk (Kd.R_elder' (by (with_reducible repeat (first | apply Kd.R_alloc | apply Kd.R_drewN | apply Kd.R_drew)); exact HO572.out) (Kd.R_base ho0) hb); replace HO575 := Aside0.mk (Kd.R_elder' (by (with_reducible repeat (first | apply Kd.R_alloc | apply Kd.R_drewN | apply Kd.R_drew)); exact HO575.out) (Kd.R_base ho0) hb); replace HO578 := Aside0.mk (Kd.R_elder' (by (with_reducible repeat (first | apply Kd.R_alloc | apply Kd.R_drewN | apply Kd.R_drew)); exact HO578.out) (Kd.R_base ho0) hb); replace BK553 := Aside0.mk (bB3 BK553.out hb); replace BK558 := Aside0.mk (bB3 BK558.out hb); replace HB := Aside0.mk (bS3 HB.out hb); (try clear hb); (try clear hk); (try clear ho0); obtain ⟨Ao51, co51, eo51⟩ := Kd.R_slice HO581.out; subst eo51; obtain ⟨Ao52, co52, eo52⟩ := Kd.R_slice HO578.out; subst eo52) | ((with_reducible refine gX_ 51 72 rfl rfl ?_); refine goesY_ (some 72) Try.func51 #[.slice Ao51 t579.length co51, .slice Ao52 t576.length co52] ?_; (with_reducible refine (vernierref04_Cmp.calls kj18 _ _ t579 _ _ t576 t582 _ ?side1 ?side2 ?side3 ?side4 A32.out).mono ?_); (case side1 => repeat (first | exact (Kd.R_reads' HO581.out).2.2 | (with_reducible refine Kd.C_alloc ?_ _) | (with_reducible refine Kd.C_drewN ?_ _) | (with_reducible refine Kd.C_drew ?_))); (case side2 => exact (Kd.R_reads' HO581.out).2.1); (case side3 => repeat (first | exact (Kd.R_reads' HO578.out).2.2 | (with_reducible refine Kd.C_alloc ?_ _) | (with_reducible refine Kd.C_drewN ?_ _) | (with_reducible refine Kd.C_drew ?_))); (case side4 => exact (Kd.R_reads' HO578.out).2.1); rintro e w' ⟨rfl, ⟨nd, rfl⟩⟩; refine ⟨_, rfl, ?_⟩) | ((with_reducible refine gX_ 53 74 rfl rfl ?_); refine goesY_ (some 74) Try.func53 #[.slice Ao41 t564.length co41, .int .i64 1] ?_; (with_reducible refine (vernierref04_Low.calls kj18 _ _ t564 1 t583 _ ?side1 ?side2 A33.out).mono ?_); (case side1 => repeat (first | exact (Kd.R_reads' HO566.out).2.2 | (with_reducible refine Kd.C_alloc ?_ _) | (with_reducible refine Kd.C_drewN ?_ _) | (with_reducible refine Kd.C_drew ?_))); (case side2 => exact (Kd.R_reads' HO566.out).2.1); rintro e w' ⟨rfl, ⟨nd, rfl⟩⟩; refine ⟨_, rfl, ?_⟩))
      (try simp only [Act.put, lS_, lZ_, lC_])
      go_cut [83] (fun v83 wc => ∃ (kq : Nat) (x83_33 : Bool), v83 = .bool x83_33 ∧ Aside0 (vernierref17_Form_To.j2 kq t559 x9_6 x10_18 t564 x83_33 a0_0 a0_1 = some r) ∧ Aside0 (kq ≤ kj18) ∧ Aside0 (Kd.R (Kd.int .i64) 3 wc w.heap.size (fun _ => True) (.slice Ao41 t564.length co41) t564) ∧ Aside0 (wc.heap[gb553]? = some (.cells #[.int .i64 a0_0, .int .i64 a0_1] 32 (0, 0))) ∧ Aside0 (wc.heap[gb558]? = some (.cells #[.int .i64 t554, .bool t555, .int .i64 t556, .int .u64 t557] 42 (0, 0))) ∧ Aside0 (Below w.heap.size w wc))
      case first =>
       have H := HC34.out
       clear HC34
       by_cases c53 : t582 > 0
       ·
        rw [if_pos c53] at H
        have c53b0 : decide (0 < t582) = true := decide_eq_true c53
        clear c53
        (first | rw [c53b0] | (simp only [i64_w, i32_w]; rw [c53b0]) | skip)
        have H' := Aside0.mk H
        clear H
        go_wp2
        go_meet
        case rel => exact ⟨_, (true), (by first | rfl | (simp; done) | (simp [*]; done)), H', ⟨by have := HJ6.out; have := HJ18.out; first | omega | exact Nat.le_refl _⟩, ⟨by (with_reducible repeat (first | apply Kd.R_alloc | apply Kd.R_drewN | apply Kd.R_drew)); exact Kd.R_mono HO566.out (fun _ hk => trivial)⟩, ⟨bK3 BK553.out⟩, ⟨bK3 BK558.out⟩, ⟨bR3 HB.out⟩⟩
       ·
        rw [if_neg c53] at H
        have c53b0 : decide (0 < t582) = false := decide_eq_false c53
        clear c53
        (first | rw [c53b0] | (simp only [i64_w, i32_w]; rw [c53b0]) | skip)
        by_cases c54 : t582 = 0
        ·
         rw [if_pos c54] at H
         have c54b0 : (t582 == 0) = true := beq_iff_eq.mpr c54
         have c54b1 : (t582 != 0) = false := bne_eq_false_iff_eq.mpr c54
         clear c54
         have H' := Aside0.mk H
         clear H
         go_wp2
         go_meet
         case rel => exact ⟨_, (t583), (by first | rfl | (simp; done) | (simp [*]; done)), H', ⟨by have := HJ6.out; have := HJ18.out; first | omega | exact Nat.le_refl _⟩, ⟨by (with_reducible repeat (first | apply Kd.R_alloc | apply Kd.R_drewN | apply Kd.R_drew)); exact Kd.R_mono HO566.out (fun _ hk => trivial)⟩, ⟨bK3 BK553.out⟩, ⟨bK3 BK558.out⟩, ⟨bR3 HB.out⟩⟩
        ·
         rw [if_neg c54] at H
         have c54b0 : (t582 == 0) = false := beq_eq_false_iff_ne.mpr c54
         have c54b1 : (t582 != 0) = true := bne_iff_ne.mpr c54
         have H' := Aside0.mk H
         clear H
         go_wp2
         go_meet
         case rel => exact ⟨_, (false), (by first | rfl | (simp; done) | (simp [*]; done)), H', ⟨by have := HJ6.out; have := HJ18.out; first | omega | exact Nat.le_refl _⟩, ⟨by (with_reducible repeat (first | apply Kd.R_alloc | apply Kd.R_drewN | apply Kd.R_drew)); exact Kd.R_mono HO566.out (fun _ hk => trivial)⟩, ⟨bK3 BK553.out⟩, ⟨bK3 BK558.out⟩, ⟨bR3 HB.out⟩⟩
      case rest =>
       clear HC34
       try clear c1
       try clear c2
       try clear p2
       try clear c3
       try clear c4
       try clear c5
       try clear c5b0
       try clear c5b1
       try clear p6
       try clear c11
       try clear c14
       try clear c16
       try clear c18
       try clear c20
       try clear c23
       try clear c23b0
       try clear c24
       try clear c35
       try clear c37
       try clear c38
       try clear c41
       try clear c48
       try clear c49
       try clear c50
       try clear c51
       try clear c52
       try clear c53
       try clear c53b0
       try clear c54
       try clear c54b0
       try clear c54b1
       try clear hcz12_0 hcz12_1 hcz12_2 hcz12_3
       try clear hcz13_0 hcz13_1
       try clear hcz17_0 hcz17_1
       try clear hcz21_0 hcz21_1 hcz21_2 hcz21_3
       try clear hcz22_0 hcz22_1
       try clear hcz25_0 hcz25_1
       try clear hcz36_0 hcz36_1 hcz36_2 hcz36_3
       try clear hcz38_0 hcz38_1 hcz38_2 hcz38_3
       try clear hfz12_0 hfz12_1 hfz12_2 hfz12_3
       try clear hfz13_0 hfz13_1
       try clear hfz17_0 hfz17_1
       try clear hfz21_0 hfz21_1 hfz21_2 hfz21_3
       try clear hfz22_0 hfz22_1
       try clear hfz25_0 hfz25_1
       try clear hfz36_0 hfz36_1 hfz36_2 hfz36_3
       try clear hfz38_0 hfz38_1 hfz38_2 hfz38_3
       try clear p2
       try clear p6
       obtain ⟨kq, x83_33, rfl, HA, HJ33, HO_13, BK553, BK558, HB⟩ := hcut
       cases kq with
       | zero => exact absurd HA.out (by simp [vernierref17_Form_To.j2])
       | succ kj33 =>
        have H := HA.out
        clear HA
        simp only [vernierref17_Form_To.j2] at H
        have HC55 := Aside0.mk H
        clear H
        go_upto_if 83 with (fail)
        go_cut [13] (fun v13 wc => ∃ (kq : Nat) (x13_54 : List Int), Aside0 (vernierref17_Form_To.j3 kq t559 x9_6 x10_18 x13_54 a0_0 a0_1 = some r) ∧ Aside0 (kq ≤ kj33) ∧ Aside0 (Kd.R (Kd.int .i64) 3 wc w.heap.size (fun _ => True) v13 x13_54) ∧ Aside0 (wc.heap[gb553]? = some (.cells #[.int .i64 a0_0, .int .i64 a0_1] 32 (0, 0))) ∧ Aside0 (wc.heap[gb558]? = some (.cells #[.int .i64 t554, .bool t555, .int .i64 t556, .int .u64 t557] 42 (0, 0))) ∧ Aside0 (Below w.heap.size w wc))
        case first =>
         have H := HC55.out
         clear HC55
         by_cases c56 : x83_33 = true
         ·
          subst c56
          rw [if_pos rfl] at H
          obtain ⟨y584, hy584⟩ : ∃ y_ : List Int, y_ = (([1] : List Int)) := ⟨_, rfl⟩
          replace H : ((vernierref04_Add.f kj33 t564 y584).bind fun t587 => (vernierref17_Form_To.j3 kj33 t559 x9_6 x10_18 t587 a0_0 a0_1)) = some r := by first | (rw [hy584]; with_reducible exact H) | (have H2_ := (Option.bind_some _ _).symm.trans H; rw [hy584]; with_reducible exact H2_) | (have H2_ := (Option.bind_some _ _).symm.trans H; with_reducible exact H2_) | with_reducible exact H | (rw [hy584]; exact H) | exact H
          have Ny584 := Aside0.mk hy584
          clear hy584
          replace H := Option.bind_eq_some_iff.mp H
          obtain ⟨t587, A570, H⟩ := H
          try dsimp -simprocs only at H
          have A57 := Aside0.mk A570
          clear A570
          have H' := Aside0.mk H
          clear H
          go_wp2_with (first | ((with_reducible refine gD (N := 85) rfl ?_); refine Kd.R_lit (Kd.int .i64) _ 3 ?hg (N := 85) ?hd (xs := ([1] : List Int)) (inner := [.int .i64 1]) (ok := fun _ => True) (okp := fun _ => True) ?hr ?hp (fun _ hk => hk) trivial (Below.refl _ _) (Nat.le_refl _) (by simp) ?_; (case hd => rfl); (case hg => rfl); (case hr => first | (go_simp; done) | (go_simp; rfl)); (case hp => exact (Reps.one (show Kd.M (Kd.int .i64) _ _ _ 1 [.int .i64 1] from rfl) (Reps.none _ _))); intro v585 w58 ho59 hb hg_ hnew_; clear hg_ hnew_; (first | rw [← Ny584.out] at ho59 | (simp only [Int.reduceToNat] at ho59; rw [← Ny584.out] at ho59)); have HO586 := Aside0.mk (Kd.R_lower (Kd.R_new' ho59 (Kd.R_lt (by (with_reducible repeat (first | apply Kd.R_alloc | apply Kd.R_drewN | apply Kd.R_drew)); exact HO_13.out))) (bZ (bR3 HB.out))); replace HO_13 := Aside0.mk (Kd.R_elder' (by (with_reducible repeat (first | apply Kd.R_alloc | apply Kd.R_drewN | apply Kd.R_drew)); exact HO_13.out) (Kd.R_base ho59) hb); replace BK553 := Aside0.mk (bB3 BK553.out hb); replace BK558 := Aside0.mk (bB3 BK558.out hb); replace HB := Aside0.mk (bS3 HB.out hb); clear hb ho59; obtain ⟨Ao60, co60, eo60⟩ := Kd.R_slice HO586.out; subst eo60) | ((with_reducible refine gX_ 52 86 rfl rfl ?_); refine goesY_ (some 86) Try.func52 #[.slice Ao41 t564.length co41, .slice Ao60 y584.length co60] ?_; (with_reducible refine (vernierref04_Add.calls kj33 _ _ t564 _ _ y584 t587 _ ?side1 ?side2 ?side3 ?side4 A57.out).mono ?_); (case side1 => repeat (first | exact (Kd.R_reads' HO_13.out).2.2 | (with_reducible refine Kd.C_alloc ?_ _) | (with_reducible refine Kd.C_drewN ?_ _) | (with_reducible refine Kd.C_drew ?_))); (case side2 => exact (Kd.R_reads' HO_13.out).2.1); (case side3 => repeat (first | exact (Kd.R_reads' HO586.out).2.2 | (with_reducible refine Kd.C_alloc ?_ _) | (with_reducible refine Kd.C_drewN ?_ _) | (with_reducible refine Kd.C_drew ?_))); (case side4 => exact (Kd.R_reads' HO586.out).2.1); rintro e w61 ⟨v588, rfl, ho0, hb⟩; refine ⟨_, rfl, ?_⟩; have HO589 := Aside0.mk (Kd.R_lower (Kd.R_new' (Kd.R_new' ho0 (Kd.R_lt (by (with_reducible repeat (first | apply Kd.R_alloc | apply Kd.R_drewN | apply Kd.R_drew)); exact HO_13.out))) (Kd.R_lt (by (with_reducible repeat (first | apply Kd.R_alloc | apply Kd.R_drewN | apply Kd.R_drew)); exact HO586.out))) (bZ (bR3 HB.out))); replace HO_13 := Aside0.mk (Kd.R_elder' (by (with_reducible repeat (first | apply Kd.R_alloc | apply Kd.R_drewN | apply Kd.R_drew)); exact HO_13.out) (Kd.R_base ho0) hb); replace HO586 := Aside0.mk (Kd.R_elder' (by (with_reducible repeat (first | apply Kd.R_alloc | apply Kd.R_drewN | apply Kd.R_drew)); exact HO586.out) (Kd.R_base ho0) hb); replace BK553 := Aside0.mk (bB3 BK553.out hb); replace BK558 := Aside0.mk (bB3 BK558.out hb); replace HB := Aside0.mk (bS3 HB.out hb); (try clear hb); (try clear hk); (try clear ho0)))
          go_meet
          case rel => exact ⟨_, (t587), H', ⟨by have := HJ6.out; have := HJ18.out; have := HJ33.out; first | omega | exact Nat.le_refl _⟩, ⟨by (with_reducible repeat (first | apply Kd.R_alloc | apply Kd.R_drewN | apply Kd.R_drew)); exact Kd.R_mono HO589.out (fun _ hk => trivial)⟩, ⟨bK3 BK553.out⟩, ⟨bK3 BK558.out⟩, ⟨bR3 HB.out⟩⟩
         ·
          replace c56 := Bool.eq_false_iff.mpr c56
          subst c56
          rw [if_neg (show ¬ (false = true) by decide)] at H
          have H' := Aside0.mk H
          clear H
          go_wp2
          go_meet
          case rel => exact ⟨_, (t564), H', ⟨by have := HJ6.out; have := HJ18.out; have := HJ33.out; first | omega | exact Nat.le_refl _⟩, ⟨by (with_reducible repeat (first | apply Kd.R_alloc | apply Kd.R_drewN | apply Kd.R_drew)); exact HO_13.out⟩, ⟨bK3 BK553.out⟩, ⟨bK3 BK558.out⟩, ⟨bR3 HB.out⟩⟩
        case rest =>
         clear HC55
         try clear c1
         try clear c2
         try clear p2
         try clear c3
         try clear c4
         try clear c5
         try clear c5b0
         try clear c5b1
         try clear p6
         try clear c11
         try clear c14
         try clear c16
         try clear c18
         try clear c20
         try clear c23
         try clear c23b0
         try clear c24
         try clear c35
         try clear c37
         try clear c38
         try clear c41
         try clear c48
         try clear c49
         try clear c50
         try clear c51
         try clear c52
         try clear c53
         try clear c53b0
         try clear c54
         try clear c54b0
         try clear c54b1
         try clear c56
         try clear hcz12_0 hcz12_1 hcz12_2 hcz12_3
         try clear hcz13_0 hcz13_1
         try clear hcz17_0 hcz17_1
         try clear hcz21_0 hcz21_1 hcz21_2 hcz21_3
         try clear hcz22_0 hcz22_1
         try clear hcz25_0 hcz25_1
         try clear hcz36_0 hcz36_1 hcz36_2 hcz36_3
         try clear hcz38_0 hcz38_1 hcz38_2 hcz38_3
         try clear hfz12_0 hfz12_1 hfz12_2 hfz12_3
         try clear hfz13_0 hfz13_1
         try clear hfz17_0 hfz17_1
         try clear hfz21_0 hfz21_1 hfz21_2 hfz21_3
         try clear hfz22_0 hfz22_1
         try clear hfz25_0 hfz25_1
         try clear hfz36_0 hfz36_1 hfz36_2 hfz36_3
         try clear hfz38_0 hfz38_1 hfz38_2 hfz38_3
         try clear p2
         try clear p6
         obtain ⟨kq, x13_54, HA, HJ54, HO_13, BK553, BK558, HB⟩ := hcut
         cases kq with
         | zero => exact absurd HA.out (by simp [vernierref17_Form_To.j3])
         | succ kj54 =>
          have H := HA.out
          clear HA
          simp only [vernierref17_Form_To.j3] at H
          replace H := Option.bind_eq_some_iff.mp H
          obtain ⟨t590, A620, H⟩ := H
          try dsimp -simprocs only at H
          have A62 := Aside0.mk A620
          clear A620
          by_cases c63 : t590 ≥ t559
          ·
           rw [if_pos c63] at H
           have c63b0 : decide (t559 ≤ t590) = true := decide_eq_true c63
           clear c63
           replace H := Option.bind_eq_some_iff.mp H
           obtain ⟨t591, A640, H⟩ := H
           try dsimp -simprocs only at H
           have A64 := Aside0.mk A640
           clear A640
           by_cases c65 : (IntKind.u64.wrap (t590 + (IntKind.u64.wrap (t559 * (IntKind.u64.wrap (wrap64 (x10_18 - a0_1))))))) > (IntKind.u64.wrap (t559 * (IntKind.u64.wrap (t591 - 1))))
           ·
            rw [if_pos c65] at H
            have c65b0 : decide ((IntKind.u64.wrap (t559 * (IntKind.u64.wrap (t591 - 1)))) < (IntKind.u64.wrap (t590 + (IntKind.u64.wrap (t559 * (IntKind.u64.wrap (wrap64 (x10_18 - a0_1)))))))) = true := decide_eq_true c65
            clear c65
            obtain rfl := Option.some.inj H
            obtain ⟨Ao66, co66, eo66⟩ := Kd.R_slice HO_13.out
            subst eo66
            go_wp2_with (first | ((with_reducible refine gX_ 54 88 rfl rfl ?_); refine goesY_ (some 88) Try.func54 #[.slice Ao66 x13_54.length co66] ?_; (with_reducible refine (vernierref04_Word.calls kj54 _ _ x13_54 t590 _ ?side1 ?side2 A62.out).mono ?_); (case side1 => repeat (first | exact (Kd.R_reads' HO_13.out).2.2 | (with_reducible refine Kd.C_alloc ?_ _) | (with_reducible refine Kd.C_drewN ?_ _) | (with_reducible refine Kd.C_drew ?_))); (case side2 => exact (Kd.R_reads' HO_13.out).2.1); rintro e w' ⟨rfl, ⟨nd, rfl⟩⟩; refine ⟨_, rfl, ?_⟩; have hnb67 := NB553_558.out; have hnc67 := NB558_553.out; obtain ⟨hcz68_0, hcz68_1, hfz68_0, hfz68_1⟩ := cl2 BK553.out) | ((with_reducible refine gX_ 38 103 rfl rfl ?_); refine goesY_ (some 103) Try.func38 #[.agg #[.int .i64 a0_0, .int .i64 a0_1]] ?_; (with_reducible refine (vernierref17_Form_exps.calls a0_0 a0_1 t591 _ A64.out).mono ?_); rintro e w69 ⟨rfl, hb⟩; refine ⟨_, rfl, ?_⟩; replace HO_13 := Aside0.mk (Kd.R_below (by (with_reducible repeat (first | apply Kd.R_alloc | apply Kd.R_drewN | apply Kd.R_drew)); exact HO_13.out) hb); replace BK553 := Aside0.mk (bB3 BK553.out hb); replace BK558 := Aside0.mk (bB3 BK558.out hb); replace HB := Aside0.mk (bS3 HB.out hb); (try clear hb); (try clear hk)))
            go_ret
            exact ⟨eR3, bR3 HB.out⟩
           ·
            rw [if_neg c65] at H
            have c65b0 : decide ((IntKind.u64.wrap (t559 * (IntKind.u64.wrap (t591 - 1)))) < (IntKind.u64.wrap (t590 + (IntKind.u64.wrap (t559 * (IntKind.u64.wrap (wrap64 (x10_18 - a0_1)))))))) = false := decide_eq_false c65
            clear c65
            obtain rfl := Option.some.inj H
            obtain ⟨Ao70, co70, eo70⟩ := Kd.R_slice HO_13.out
            subst eo70
            go_wp2_with (first | ((with_reducible refine gX_ 54 88 rfl rfl ?_); refine goesY_ (some 88) Try.func54 #[.slice Ao70 x13_54.length co70] ?_; (with_reducible refine (vernierref04_Word.calls kj54 _ _ x13_54 t590 _ ?side1 ?side2 A62.out).mono ?_); (case side1 => repeat (first | exact (Kd.R_reads' HO_13.out).2.2 | (with_reducible refine Kd.C_alloc ?_ _) | (with_reducible refine Kd.C_drewN ?_ _) | (with_reducible refine Kd.C_drew ?_))); (case side2 => exact (Kd.R_reads' HO_13.out).2.1); rintro e w' ⟨rfl, ⟨nd, rfl⟩⟩; refine ⟨_, rfl, ?_⟩; have hnb71 := NB553_558.out; have hnc71 := NB558_553.out; obtain ⟨hcz72_0, hcz72_1, hfz72_0, hfz72_1⟩ := cl2 BK553.out) | ((with_reducible refine gX_ 38 103 rfl rfl ?_); refine goesY_ (some 103) Try.func38 #[.agg #[.int .i64 a0_0, .int .i64 a0_1]] ?_; (with_reducible refine (vernierref17_Form_exps.calls a0_0 a0_1 t591 _ A64.out).mono ?_); rintro e w73 ⟨rfl, hb⟩; refine ⟨_, rfl, ?_⟩; replace HO_13 := Aside0.mk (Kd.R_below (by (with_reducible repeat (first | apply Kd.R_alloc | apply Kd.R_drewN | apply Kd.R_drew)); exact HO_13.out) hb); replace BK553 := Aside0.mk (bB3 BK553.out hb); replace BK558 := Aside0.mk (bB3 BK558.out hb); replace HB := Aside0.mk (bS3 HB.out hb); (try clear hb); (try clear hk)))
            go_ret
            exact ⟨eR3, bR3 HB.out⟩
          ·
           rw [if_neg c63] at H
           have c63b0 : decide (t559 ≤ t590) = false := decide_eq_false c63
           clear c63
           replace H := Option.bind_eq_some_iff.mp H
           obtain ⟨t592, A740, H⟩ := H
           try dsimp -simprocs only at H
           have A74 := Aside0.mk A740
           clear A740
           by_cases c75 : t590 > (IntKind.u64.wrap (t559 * (IntKind.u64.wrap (t592 - 1))))
           ·
            rw [if_pos c75] at H
            have c75b0 : decide ((IntKind.u64.wrap (t559 * (IntKind.u64.wrap (t592 - 1)))) < t590) = true := decide_eq_true c75
            clear c75
            obtain rfl := Option.some.inj H
            obtain ⟨Ao76, co76, eo76⟩ := Kd.R_slice HO_13.out
            subst eo76
            go_wp2_with (first | ((with_reducible refine gX_ 54 88 rfl rfl ?_); refine goesY_ (some 88) Try.func54 #[.slice Ao76 x13_54.length co76] ?_; (with_reducible refine (vernierref04_Word.calls kj54 _ _ x13_54 t590 _ ?side1 ?side2 A62.out).mono ?_); (case side1 => repeat (first | exact (Kd.R_reads' HO_13.out).2.2 | (with_reducible refine Kd.C_alloc ?_ _) | (with_reducible refine Kd.C_drewN ?_ _) | (with_reducible refine Kd.C_drew ?_))); (case side2 => exact (Kd.R_reads' HO_13.out).2.1); rintro e w' ⟨rfl, ⟨nd, rfl⟩⟩; refine ⟨_, rfl, ?_⟩; have hnb77 := NB553_558.out; have hnc77 := NB558_553.out; obtain ⟨hcz78_0, hcz78_1, hfz78_0, hfz78_1⟩ := cl2 BK553.out) | ((with_reducible refine gX_ 38 103 rfl rfl ?_); refine goesY_ (some 103) Try.func38 #[.agg #[.int .i64 a0_0, .int .i64 a0_1]] ?_; (with_reducible refine (vernierref17_Form_exps.calls a0_0 a0_1 t592 _ A74.out).mono ?_); rintro e w79 ⟨rfl, hb⟩; refine ⟨_, rfl, ?_⟩; replace HO_13 := Aside0.mk (Kd.R_below (by (with_reducible repeat (first | apply Kd.R_alloc | apply Kd.R_drewN | apply Kd.R_drew)); exact HO_13.out) hb); replace BK553 := Aside0.mk (bB3 BK553.out hb); replace BK558 := Aside0.mk (bB3 BK558.out hb); replace HB := Aside0.mk (bS3 HB.out hb); (try clear hb); (try clear hk)))
            go_ret
            exact ⟨eR3, bR3 HB.out⟩
           ·
            rw [if_neg c75] at H
            have c75b0 : decide ((IntKind.u64.wrap (t559 * (IntKind.u64.wrap (t592 - 1)))) < t590) = false := decide_eq_false c75
            clear c75
            obtain rfl := Option.some.inj H
            obtain ⟨Ao80, co80, eo80⟩ := Kd.R_slice HO_13.out
            subst eo80
            go_wp2_with (first | ((with_reducible refine gX_ 54 88 rfl rfl ?_); refine goesY_ (some 88) Try.func54 #[.slice Ao80 x13_54.length co80] ?_; (with_reducible refine (vernierref04_Word.calls kj54 _ _ x13_54 t590 _ ?side1 ?side2 A62.out).mono ?_); (case side1 => repeat (first | exact (Kd.R_reads' HO_13.out).2.2 | (with_reducible refine Kd.C_alloc ?_ _) | (with_reducible refine Kd.C_drewN ?_ _) | (with_reducible refine Kd.C_drew ?_))); (case side2 => exact (Kd.R_reads' HO_13.out).2.1); rintro e w' ⟨rfl, ⟨nd, rfl⟩⟩; refine ⟨_, rfl, ?_⟩; have hnb81 := NB553_558.out; have hnc81 := NB558_553.out; obtain ⟨hcz82_0, hcz82_1, hfz82_0, hfz82_1⟩ := cl2 BK553.out) | ((with_reducible refine gX_ 38 103 rfl rfl ?_); refine goesY_ (some 103) Try.func38 #[.agg #[.int .i64 a0_0, .int .i64 a0_1]] ?_; (with_reducible refine (vernierref17_Form_exps.calls a0_0 a0_1 t592 _ A74.out).mono ?_); rintro e w83 ⟨rfl, hb⟩; refine ⟨_, rfl, ?_⟩; replace HO_13 := Aside0.mk (Kd.R_below (by (with_reducible repeat (first | apply Kd.R_alloc | apply Kd.R_drewN | apply Kd.R_drew)); exact HO_13.out) hb); replace BK553 := Aside0.mk (bB3 BK553.out hb); replace BK558 := Aside0.mk (bB3 BK558.out hb); replace HB := Aside0.mk (bS3 HB.out hb); (try clear hb); (try clear hk)))
            go_ret
            exact ⟨eR3, bR3 HB.out⟩
 ·
  rw [if_neg c5] at H
  have c5b0 : (t554 == 1) = false := beq_eq_false_iff_ne.mpr c5
  have c5b1 : (t554 != 1) = true := bne_iff_ne.mpr c5
  obtain rfl := Option.some.inj H
  go_enter Try.func20, Try.ntmps20
  go_wp2_with (first | ((with_reducible refine gD (N := 3) rfl ?_); refine bE3 3 #[.int .i64 a0_0, .int .i64 a0_1] 32 ?hr ?_; (case hr => first | (go_simp; done) | (go_simp; rfl)); intro gb553 hg w84 hbox hb; have BK553 := Aside0.mk (hbox); have GW553 := Aside0.mk ((bZ3 hg HB.out)); have GE553 := Aside0.mk ((bZ3 hg HB.out)); replace HB := Aside0.mk (bS3 HB.out hb); clear hb hbox hg) | ((with_reducible refine gX_ 18 22 rfl rfl ?_); refine goesY_ (some 22) Try.func18 #[.int .i64 a1, .int .u64 a2] ?_; (with_reducible refine (vernierref06_Decode.calls k a1 a2 t554 t555 t556 t557 _ A4.out).mono ?_); rintro e w85 ⟨rfl, hb⟩; refine ⟨_, rfl, ?_⟩; replace BK553 := Aside0.mk (bB3 BK553.out hb); replace HB := Aside0.mk (bS3 HB.out hb); (try clear hb); (try clear hk)) | ((with_reducible refine gD (N := 7) rfl ?_); refine bE3 7 #[.int .i64 0, .bool false, .int .i64 0, .int .u64 0] 42 ?hr ?_; (case hr => first | (go_simp; done) | (go_simp; rfl)); intro gb558 hg w86 hbox hb; have BK558 := Aside0.mk (hbox); have GW558 := Aside0.mk ((bZ3 hg HB.out)); have GE558 := Aside0.mk ((bZ3 hg HB.out)); replace HB := Aside0.mk (bS3 HB.out hb); have NB553_558 := Aside0.mk ((bL3 hg BK553.out)); have NB558_553 := Aside0.mk ((bG3 hg BK553.out)); replace BK553 := Aside0.mk (bB3 BK553.out hb); clear hb hbox hg; have hnb87 := NB558_553.out; have hnc87 := NB553_558.out; obtain ⟨hcz88_0, hcz88_1, hcz88_2, hcz88_3, hfz88_0, hfz88_1, hfz88_2, hfz88_3⟩ := cl4 BK558.out))
  go_ret
  exact ⟨eR3, bR3 HB.out⟩
def vernierref17_Short.f  : Option (Int × Int) := some (23, (-149))
set_option maxHeartbeats 8000000 in
set_option maxRecDepth 100000 in
theorem vernierref17_Short.calls  (r1 : Int) (r2 : Int) (w : World) (h : vernierref17_Short.f  = some (r1, r2)) :
  Calls Try.prog 23 #[] w fun e w' => e = .returned (.agg #[.int .i64 r1, .int .i64 r2]) ∧ Below w.heap.size w w' := by
 have hu32 := Try.underlying32
 have HB := Aside0.mk (Below.refl w.heap.size w)
 have H : (some (23, (-149))) = some (r1, r2) := h
 clear h
 simp only [Option.some.injEq, Prod.mk.injEq] at H
 obtain ⟨rfl, rfl⟩ := H
 go_enter Try.func23, Try.ntmps23
 go_wp2_with (first | ((with_reducible refine gD (N := 0) rfl ?_); refine bE3 0 #[.int .i64 0, .int .i64 0] 32 ?hr ?_; (case hr => first | (go_simp; done) | (go_simp; rfl)); intro gb611 hg w1 hbox hb; have BK611 := Aside0.mk (hbox); have GW611 := Aside0.mk ((bZ3 hg HB.out)); have GE611 := Aside0.mk ((bZ3 hg HB.out)); replace HB := Aside0.mk (bS3 HB.out hb); clear hb hbox hg; obtain ⟨hcz2_0, hcz2_1, hfz2_0, hfz2_1⟩ := cl2 BK611.out))
 refine bodyPost_ret (results_cell_row rfl _ _ gb611 32 #[.int .i64 23, .int .i64 (-149)] (0, 0) _ rfl (bQ3 BK611.out) Try.underlying32 rfl (by kernel_rfl)) rfl ?_
 exact ⟨eR3, bR3 HB.out⟩
end Go.Proofs.Ytpdpggndhmnggaa.F
