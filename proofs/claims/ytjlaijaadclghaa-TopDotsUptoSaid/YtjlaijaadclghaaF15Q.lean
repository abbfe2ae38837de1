/- Printed functions and their walks; no further conditions. -/
import Derived.Test.YtjlaijaadclghaaF0Q
import Derived.Test.YtjlaijaadclghaaF11Q
import Derived.Test.YtjlaijaadclghaaF14Q
namespace Go.Proofs.Ytjlaijaadclghaa.F
open RowKit YtjlaijaadclghaaW PrintWords PrintLast PrintMore
attribute [local go_sem high] xor_u64 xor_u32
attribute [local go_sem] max2_int min2_int max_two min_two max_three min_three max_four min_four
set_option linter.all false
def vernierref06_String.f (k : Nat) (a0 : Int) (a1 : Int) : Option (ByteArray) := (vernierref01_Text.f k a1 a0).bind fun t260 => (if 0 < (t260.size : Int) then (if (bt t260 0) = 49 then ((vernierref01_Text.f k (IntKind.u64.wrap (-a1)) a0).bind fun t261 => (if 1 ≤ (t261.size : Int) then (some (t261.extract 1 t261.size)) else (none))) else (if 1 ≤ (t260.size : Int) then (some (t260.extract 1 t260.size)) else (none))) else (none))
set_option maxHeartbeats 8000000 in
set_option maxRecDepth 100000 in
theorem vernierref06_String.calls (k : Nat) (a0 : Int) (a1 : Int) (r : ByteArray) (w : World) (h : vernierref06_String.f k a0 a1 = some r) :
  Calls Try.prog 56 #[.int .i64 a0, .int .u64 a1] w fun e w' => e = .returned (.string r) ∧ Below w.heap.size w w' := by
 have HB := Aside0.mk (Below.refl w.heap.size w)
 have H : ((vernierref01_Text.f k a1 a0).bind fun t260 => (if 0 < (t260.size : Int) then (if (bt t260 0) = 49 then ((vernierref01_Text.f k (IntKind.u64.wrap (-a1)) a0).bind fun t261 => (if 1 ≤ (t261.size : Int) then (some (t261.extract 1 t261.size)) else (none))) else (if 1 ≤ (t260.size : Int) then (some (t260.extract 1 t260.size)) else (none))) else (none))) = some r := h
 clear h
 replace H := Option.bind_eq_some_iff.mp H
 obtain ⟨t260, A30, H⟩ := H
 try dsimp -simprocs only at H
 have A3 := Aside0.mk A30
 clear A30
 by_cases c4 : 0 < (t260.size : Int)
 ·
  rw [if_pos c4] at H
  have c4b0 : decide (0 < (t260.size : Int)) = true := decide_eq_true c4
  have c4b1 : decide (0 < t260.size) = true := decide_eq_true (by omega)
  clear c4
  by_cases c6 : (bt t260 0) = 49
  ·
   rw [if_pos c6] at H
   have c6b0 : ((bt t260 0) == 49) = true := beq_iff_eq.mpr c6
   have c6b1 : ((bt t260 0) != 49) = false := bne_eq_false_iff_eq.mpr c6
   clear c6
   replace H := Option.bind_eq_some_iff.mp H
   obtain ⟨t261, A70, H⟩ := H
   try dsimp -simprocs only at H
   have A7 := Aside0.mk A70
   clear A70
   by_cases c8 : 1 ≤ (t261.size : Int)
   ·
    rw [if_pos c8] at H
    have c8b0 := eq_true c8
    have c8b1 : decide (1 ≤ (t261.size : Int)) = true := decide_eq_true c8
    clear c8
    obtain rfl := Option.some.inj H
    go_enter Try.func56, Try.ntmps56
    go_wp2_with (first | ((with_reducible refine gX_ 39 8 rfl rfl ?_); refine goesY_ (some 8) Try.func39 #[.int .u64 a1, .int .i64 a0] ?_; (with_reducible refine (vernierref01_Text.calls k a1 a0 t260 _ A3.out).mono ?_); rintro e w9 ⟨rfl, hb⟩; refine ⟨_, rfl, ?_⟩; replace HB := Aside0.mk (bS3 HB.out hb); (try clear hb); (try clear hk); have p5 : 0 ≤ (0 : Int) := (by omega); have q5 : 0 < t260.size := (by have : (0 : Int) < (t260.size : Int) := of_decide_eq_true (by first | (with_reducible assumption) | assumption); omega); have hx5 : ∀ h : 0 < t260.size, ((t260[0]'h).toNat : Int) = bt t260 0 := bt_at t260 0; clear p5; have qi5 : (0 < (t260.size : Int)) = True := eq_true (of_decide_eq_true (by first | (with_reducible assumption) | assumption)); replace q5 := eq_true q5) | ((with_reducible refine gX_ 39 15 rfl rfl ?_); refine goesY_ (some 15) Try.func39 #[.int .u64 (IntKind.u64.wrap (-a1)), .int .i64 a0] ?_; (with_reducible refine (vernierref01_Text.calls k (IntKind.u64.wrap (-a1)) a0 t261 _ A7.out).mono ?_); rintro e w10 ⟨rfl, hb⟩; refine ⟨_, rfl, ?_⟩; replace HB := Aside0.mk (bS3 HB.out hb); (try clear hb); (try clear hk)))
    go_ret
    exact ⟨eR3, bR3 HB.out⟩
   ·
    rw [if_neg c8] at H
    exact absurd H (by simp)
  ·
   rw [if_neg c6] at H
   have c6b0 : ((bt t260 0) == 49) = false := beq_eq_false_iff_ne.mpr c6
   have c6b1 : ((bt t260 0) != 49) = true := bne_iff_ne.mpr c6
   by_cases c11 : 1 ≤ (t260.size : Int)
   ·
    rw [if_pos c11] at H
    have c11b0 := eq_true c11
    have c11b1 : decide (1 ≤ (t260.size : Int)) = true := decide_eq_true c11
    clear c11
    obtain rfl := Option.some.inj H
    go_enter Try.func56, Try.ntmps56
    go_wp2_with (first | ((with_reducible refine gX_ 39 8 rfl rfl ?_); refine goesY_ (some 8) Try.func39 #[.int .u64 a1, .int .i64 a0] ?_; (with_reducible refine (vernierref01_Text.calls k a1 a0 t260 _ A3.out).mono ?_); rintro e w12 ⟨rfl, hb⟩; refine ⟨_, rfl, ?_⟩; replace HB := Aside0.mk (bS3 HB.out hb); (try clear hb); (try clear hk); have p5 : 0 ≤ (0 : Int) := (by omega); have q5 : 0 < t260.size := (by have : (0 : Int) < (t260.size : Int) := of_decide_eq_true (by first | (with_reducible assumption) | assumption); omega); have hx5 : ∀ h : 0 < t260.size, ((t260[0]'h).toNat : Int) = bt t260 0 := bt_at t260 0; clear p5; have qi5 : (0 < (t260.size : Int)) = True := eq_true (of_decide_eq_true (by first | (with_reducible assumption) | assumption)); replace q5 := eq_true q5))
    go_ret
    exact ⟨eR3, bR3 HB.out⟩
   ·
    rw [if_neg c11] at H
    exact absurd H (by simp)
 ·
  rw [if_neg c4] at H
  exact absurd H (by simp)
def vernierref06_run.l0 : Nat → ByteArray → Int → Option (Int)
 | 0, _, _ => none
 | k + 1, x0, x3 => if x3 < (x0.size : Int) then (if 0 ≤ x3 then (if 0 < (x0.size : Int) then (if (bt x0 x3) = (bt x0 0) then (vernierref06_run.l0 k x0 (wrap64 (x3 + 1))) else (some x3)) else (none)) else (none)) else (some x3)
def vernierref06_run.f (k : Nat) (a0 : ByteArray) : Option (Int) := vernierref06_run.l0 k a0 0
set_option maxHeartbeats 8000000 in
set_option maxRecDepth 100000 in
theorem vernierref06_run.calls (k : Nat) (a0 : ByteArray) (r : Int) (w : World) (h : vernierref06_run.f k a0 = some r) :
  Calls Try.prog 57 #[.string a0] w fun e w' => e = .returned (.int .i64 r) ∧ Drawn0 w w' := by
 have H : (vernierref06_run.l0 k a0 0) = some r := h
 clear h
 have H' := Aside0.mk H
 clear H
 go_enter Try.func57, Try.ntmps57
 go_wp2
 repeat (go_quiet (fail); try go_wp2)
 go_loopg [3] k (fun kq v3 w' => ∃ (x3_1 : Int), v3 = .int .i64 x3_1 ∧ Aside0 (vernierref06_run.l0 kq a0 x3_1 = some r) ∧ Aside0 (kq ≤ k) ∧ Drawn0 w w')
 case atStart => exact ⟨(0), (by first | rfl | (simp; done) | (simp [*]; done)), H', ⟨Nat.le_refl _⟩, by repeat (first | exact Drawn0.refl _ | apply Drawn0.step)⟩
 case round =>
  clear H'
  obtain ⟨x3_1, rfl, HA, HK1, ⟨m1, rfl⟩⟩ := hrel
  cases gk with
  | zero => exact absurd HA.out (by simp [vernierref06_run.l0])
  | succ k1 =>
   have H := HA.out
   clear HA
   simp only [vernierref06_run.l0] at H
   by_cases c2 : x3_1 < (a0.size : Int)
   ·
    rw [if_pos c2] at H
    have c2b0 : decide (x3_1 < (a0.size : Int)) = true := decide_eq_true c2
    clear c2
    by_cases c3 : 0 ≤ x3_1
    ·
     rw [if_pos c3] at H
     have c3b0 : decide (0 ≤ x3_1) = true := decide_eq_true c3
     clear c3
     by_cases c5 : 0 < (a0.size : Int)
     ·
      rw [if_pos c5] at H
      have c5b0 : decide (0 < (a0.size : Int)) = true := decide_eq_true c5
      have c5b1 : decide (0 < a0.size) = true := decide_eq_true (by omega)
      clear c5
      by_cases c7 : (bt a0 x3_1) = (bt a0 0)
      ·
       rw [if_pos c7] at H
       have c7b0 : ((bt a0 x3_1) == (bt a0 0)) = true := beq_iff_eq.mpr c7
       have c7b1 : ((bt a0 x3_1) != (bt a0 0)) = false := bne_eq_false_iff_eq.mpr c7
       clear c7
       have H' := Aside0.mk H
       clear H
       have p4 : 0 ≤ (x3_1 : Int) := of_decide_eq_true (by first | (with_reducible assumption) | assumption)
       have q4 : x3_1 < (a0.size : Int) := of_decide_eq_true (by first | (with_reducible assumption) | assumption)
       have hx4 := bt_at a0 x3_1
       replace p4 := eq_true p4
       replace q4 := eq_true q4
       have p6 : 0 ≤ (0 : Int) := (by omega)
       have q6 : 0 < a0.size := (by have : (0 : Int) < (a0.size : Int) := of_decide_eq_true (by first | (with_reducible assumption) | assumption); omega)
       have hx6 : ∀ h : 0 < a0.size, ((a0[0]'h).toNat : Int) = bt a0 0 := bt_at a0 0
       clear p6
       have qi6 : (0 < (a0.size : Int)) = True := eq_true (of_decide_eq_true (by first | (with_reducible assumption) | assumption))
       replace q6 := eq_true q6
       go_wp2
       repeat (go_quiet (fail); try go_wp2)
       go_roundg k1
       case measure => have := HK1.out; omega
       case rel => exact ⟨(wrap64 (x3_1 + 1)), (by first | rfl | (simp; done) | (simp [*]; done)), H', ⟨by have := HK1.out; omega⟩, by repeat (first | exact Drawn0.refl _ | apply Drawn0.step)⟩
      ·
       rw [if_neg c7] at H
       have c7b0 : ((bt a0 x3_1) == (bt a0 0)) = false := beq_eq_false_iff_ne.mpr c7
       have c7b1 : ((bt a0 x3_1) != (bt a0 0)) = true := bne_iff_ne.mpr c7
       obtain rfl := Option.some.inj H
       have p4 : 0 ≤ (x3_1 : Int) := of_decide_eq_true (by first | (with_reducible assumption) | assumption)
       have q4 : x3_1 < (a0.size : Int) := of_decide_eq_true (by first | (with_reducible assumption) | assumption)
       have hx4 := bt_at a0 x3_1
       replace p4 := eq_true p4
       replace q4 := eq_true q4
       have p6 : 0 ≤ (0 : Int) := (by omega)
       have q6 : 0 < a0.size := (by have : (0 : Int) < (a0.size : Int) := of_decide_eq_true (by first | (with_reducible assumption) | assumption); omega)
       have hx6 : ∀ h : 0 < a0.size, ((a0[0]'h).toNat : Int) = bt a0 0 := bt_at a0 0
       clear p6
       have qi6 : (0 < (a0.size : Int)) = True := eq_true (of_decide_eq_true (by first | (with_reducible assumption) | assumption))
       replace q6 := eq_true q6
       go_wp2
       repeat (go_quiet (fail); try go_wp2)
       go_ret
       exact ⟨by first | rfl | (simp; done) | (simp [*]; done), by repeat (first | exact Drawn0.refl _ | apply Drawn0.step)⟩
     ·
      rw [if_neg c5] at H
      exact absurd H (by simp)
    ·
     rw [if_neg c3] at H
     exact absurd H (by simp)
   ·
    rw [if_neg c2] at H
    have c2b0 : decide (x3_1 < (a0.size : Int)) = false := decide_eq_false c2
    clear c2
    obtain rfl := Option.some.inj H
    go_wp2
    repeat (go_quiet (fail); try go_wp2)
    go_ret
    exact ⟨by first | rfl | (simp; done) | (simp [*]; done), by repeat (first | exact Drawn0.refl _ | apply Drawn0.step)⟩
mutual
def vernierref06_Split.j0 : Nat → Int → Int → Int → Bool → Option (Bool × Bool × Int × Int × Int × Int × Int × Int × Int)
 | 0, _, _, _, _ => none
 | k + 1, x0, x1, x7, x23 => if x23 = true then (some (false, false, 0, 0, 0, 0, 0, 0, x7)) else ((vernierref06_String.f k x0 x1).bind fun t265 => ((vernierref01_Text.f k x1 x0).bind fun t266 => (if 0 < (t266.size : Int) then (if 0 < (t265.size : Int) then ((vernierref06_run.f k t265).bind fun t267 => (if (bt t265 0) = 49 then (vernierref06_Split.j1 k t265 ((bt t266 0) == 49) ((bt t265 0) == 49) t267 (wrap64 (t267 - 1)) 0 0 0 0) else (vernierref06_Split.j1 k t265 ((bt t266 0) == 49) ((bt t265 0) == 49) t267 (wrap64 (-t267)) 0 0 0 0))) else (none)) else (none))))
def vernierref06_Split.j1 : Nat → ByteArray → Bool → Bool → Int → Int → Int → Int → Int → Int → Option (Bool × Bool × Int × Int × Int × Int × Int × Int × Int)
 | 0, _, _, _, _, _, _, _, _, _ => none
 | k + 1, x8, x269000, x269001, x269002, x269003, x269004, x269005, x269006, x269007 => if x269002 < (x8.size : Int) then (if 0 ≤ (wrap64 (x269002 + 1)) then (if (wrap64 (x269002 + 1)) ≤ (x8.size : Int) then (vernierref06_Split.j2 k (x8.extract ((wrap64 (x269002 + 1)) : Int).toNat x8.size) x269000 x269001 x269002 x269003 x269004 x269005 x269006 x269007) else (none)) else (none)) else (vernierref06_Split.j2 k (⟨#[]⟩ : ByteArray) x269000 x269001 x269002 x269003 x269004 x269005 x269006 x269007)
def vernierref06_Split.j2 : Nat → ByteArray → Bool → Bool → Int → Int → Int → Int → Int → Int → Option (Bool × Bool × Int × Int × Int × Int × Int × Int × Int)
 | 0, _, _, _, _, _, _, _, _, _ => none
 | k + 1, x10, x269000, x269001, x269002, x269003, x269004, x269005, x269006, x269007 => if (x10.size : Int) > 2 then (if 0 ≤ 2 then (if 2 ≤ (x10.size : Int) then (if (x10.extract 0 2).size + 2 ≤ 9223372036854775807 then (if 2 ≤ (((x10.extract 0 2) ++ (⟨#[48, 48]⟩ : ByteArray)).size : Int) then ((vernierref01_Number.f k (((x10.extract 0 2) ++ (⟨#[48, 48]⟩ : ByteArray)).extract 0 2)).bind fun t269 => ((vernierref01_Number.f k (x10.extract 2 x10.size)).bind fun t270 => (some (x269000, x269001, x269002, x269003, 2, wrap64 (t269), wrap64 ((x10.size : Int) - 2), t270, 0)))) else (none)) else (none)) else (none)) else (none)) else (if 0 ≤ (x10.size : Int) then (if (x10.size : Int) ≤ (x10.size : Int) then (if (x10.extract 0 ((x10.size : Int) : Int).toNat).size + 2 ≤ 9223372036854775807 then (if 0 ≤ 2 then (if 2 ≤ (((x10.extract 0 ((x10.size : Int) : Int).toNat) ++ (⟨#[48, 48]⟩ : ByteArray)).size : Int) then ((vernierref01_Number.f k (((x10.extract 0 ((x10.size : Int) : Int).toNat) ++ (⟨#[48, 48]⟩ : ByteArray)).extract 0 2)).bind fun t271 => ((vernierref01_Number.f k (x10.extract ((x10.size : Int) : Int).toNat x10.size)).bind fun t272 => (some (x269000, x269001, x269002, x269003, (x10.size : Int), wrap64 (t271), wrap64 ((x10.size : Int) - (x10.size : Int)), t272, 0)))) else (none)) else (none)) else (none)) else (none)) else (none))
end
def vernierref06_Split.f (k : Nat) (a0 : Int) (a1 : Int) : Option (Bool × Bool × Int × Int × Int × Int × Int × Int × Int) := (vernierref05_Kind.f k a0 a1).bind fun bt263 => (if bt263.2 = 0 then (vernierref06_Split.j0 k a0 a1 bt263.2 (bt263.1 != 1)) else (vernierref06_Split.j0 k a0 a1 bt263.2 true))
def vernierref06_Split.T5 : Bool × List (List Nat × List Nat) := (true, [([], []), ([], []), ([0, 1], [0, 1]), ([2], [2]), ([3], [3]), ([], []), ([5], [5]), ([6], [6]), ([], []), ([8, 2], [8]), ([4, 7, 9], [4, 7, 9]), ([], []), ([11, 10, 9, 0, 1, 2, 3, 4, 5, 6, 7, 8, 9, 10, 11], [10, 11])])
def vernierref06_Split.B5 : List Nat := [0, 0, 3, 7, 15, 0, 32, 96, 0, 263, 1023, 0, 4095]
theorem vernierref06_Split.tab5 : rtab .any (opsOf Try.f38 5) = vernierref06_Split.T5 := by kernel_rfl
theorem vernierref06_Split.bits5 : waitsOk vernierref06_Split.T5.2 vernierref06_Split.B5 = true := by kernel_rfl
set_option maxHeartbeats 8000000 in
set_option maxRecDepth 100000 in
theorem vernierref06_Split.calls (k : Nat) (a0 : Int) (a1 : Int) (r1 : Bool) (r2 : Bool) (r3 : Int) (r4 : Int) (r5 : Int) (r6 : Int) (r7 : Int) (r8 : Int) (r9 : Int) (w : World) (h : vernierref06_Split.f k a0 a1 = some (r1, r2, r3, r4, r5, r6, r7, r8, r9)) :
  Calls Try.prog 38 #[.int .i64 a0, .int .u64 a1] w fun e w' => e = .returned (.tuple #[.agg #[.bool r1, .bool r2, .int .i64 r3, .int .i64 r4, .int .i64 r5, .int .i64 r6, .int .i64 r7, .int .u64 r8], .int .i64 r9]) ∧ Below w.heap.size w w' := by
 have hu84 := Try.underlying84
 have HB := Aside0.mk (Below.refl w.heap.size w)
 have H : ((vernierref05_Kind.f k a0 a1).bind fun bt263 => (if bt263.2 = 0 then (vernierref06_Split.j0 k a0 a1 bt263.2 (bt263.1 != 1)) else (vernierref06_Split.j0 k a0 a1 bt263.2 true))) = some (r1, r2, r3, r4, r5, r6, r7, r8, r9) := h
 clear h
 replace H := Option.bind_eq_some_iff.mp H
 obtain ⟨⟨t263, t264⟩, A30, H⟩ := H
 try dsimp -simprocs only at H
 have A3 := Aside0.mk A30
 clear A30
 have HC4 := Aside0.mk H
 clear H
 go_enter Try.func38, Try.ntmps38
 go_upto_region 2 with (first | ((with_reducible refine gD (N := 4) rfl ?_); refine bE3 4 #[.bool false, .bool false, .int .i64 0, .int .i64 0, .int .i64 0, .int .i64 0, .int .i64 0, .int .u64 0] 84 ?hr ?_; (case hr => first | (go_simp; done) | (go_simp; rfl)); intro gb262 hg w5 hbox hb; have BK262 := Aside0.mk (hbox); have GW262 := Aside0.mk ((bZ3 hg HB.out)); have GE262 := Aside0.mk ((bZ3 hg HB.out)); replace HB := Aside0.mk (bS3 HB.out hb); clear hb hbox hg) | ((with_reducible refine gX_ 37 15 rfl rfl ?_); refine goesY_ (some 15) Try.func37 #[.int .i64 a0, .int .u64 a1] ?_; (with_reducible refine (vernierref05_Kind.calls k a0 a1 t263 t264 _ A3.out).mono ?_); rintro e w6 ⟨rfl, hb⟩; refine ⟨_, rfl, ?_⟩; replace BK262 := Aside0.mk (bB3 BK262.out hb); replace HB := Aside0.mk (bS3 HB.out hb); (try clear hb); (try clear hk)))
 (try simp only [Act.put, lS_, lZ_, lC_])
 go_cut [23] (fun v23 wc => ∃ (kq : Nat) (x23_3 : Bool), v23 = .bool x23_3 ∧ Aside0 (vernierref06_Split.j0 kq a0 a1 t264 x23_3 = some (r1, r2, r3, r4, r5, r6, r7, r8, r9)) ∧ Aside0 (kq ≤ k) ∧ Aside0 (wc.heap[gb262]? = some (.cells #[.bool false, .bool false, .int .i64 0, .int .i64 0, .int .i64 0, .int .i64 0, .int .i64 0, .int .u64 0] 84 (0, 0))) ∧ Aside0 (Below w.heap.size w wc))
 case first =>
  have H := HC4.out
  clear HC4
  by_cases c7 : t264 = 0
  ·
   rw [if_pos c7] at H
   have c7b0 : (t264 == 0) = true := beq_iff_eq.mpr c7
   have c7b1 : (t264 != 0) = false := bne_eq_false_iff_eq.mpr c7
   clear c7
   (first | rw [c7b0] | (simp only [i64_w, i32_w]; rw [c7b0]) | skip)
   have H' := Aside0.mk H
   clear H
   go_wp2
   go_meet
   case rel => exact ⟨_, ((t263 != 1)), (by first | rfl | (simp; done) | (simp [*]; done)), H', ⟨by first | omega | exact Nat.le_refl _⟩, ⟨bK3 BK262.out⟩, ⟨bR3 HB.out⟩⟩
  ·
   rw [if_neg c7] at H
   have c7b0 : (t264 == 0) = false := beq_eq_false_iff_ne.mpr c7
   have c7b1 : (t264 != 0) = true := bne_iff_ne.mpr c7
   (first | rw [c7b0] | (simp only [i64_w, i32_w]; rw [c7b0]) | skip)
   have H' := Aside0.mk H
   clear H
   go_wp2
   go_meet
   case rel => exact ⟨_, (true), (by first | rfl | (simp; done) | (simp [*]; done)), H', ⟨by first | omega | exact Nat.le_refl _⟩, ⟨bK3 BK262.out⟩, ⟨bR3 HB.out⟩⟩
 case rest =>
  clear HC4
  try clear p2
  try clear c3
  try clear c7
  try clear c7b0
  try clear c7b1
  obtain ⟨kq, x23_3, rfl, HA, HJ3, BK262, HB⟩ := hcut
  cases kq with
  | zero => exact absurd HA.out (by simp [vernierref06_Split.j0])
  | succ kj3 =>
   have H := HA.out
   clear HA
   simp only [vernierref06_Split.j0] at H
   by_cases c8 : x23_3 = true
   ·
    subst c8
    rw [if_pos rfl] at H
    simp only [Option.some.injEq, Prod.mk.injEq] at H
    obtain ⟨rfl, rfl, rfl, rfl, rfl, rfl, rfl, rfl, rfl⟩ := H
    obtain ⟨hcz9_0, hcz9_1, hcz9_2, hcz9_3, hcz9_4, hcz9_5, hcz9_6, hcz9_7, hfz9_0, hfz9_1, hfz9_2, hfz9_3, hfz9_4, hfz9_5, hfz9_6, hfz9_7⟩ := cl8 BK262.out
    go_wp2
    refine bodyPost_ret (results_ct rfl _ _ gb262 84 #[.bool false, .bool false, .int .i64 0, .int .i64 0, .int .i64 0, .int .i64 0, .int .i64 0, .int .u64 0] (0, 0) _ rfl (bQ3 BK262.out) Try.underlying84 rfl (by kernel_rfl)) rfl ?_
    exact ⟨eR3, bR3 HB.out⟩
   ·
    replace c8 := Bool.eq_false_iff.mpr c8
    subst c8
    rw [if_neg (show ¬ (false = true) by decide)] at H
    replace H := Option.bind_eq_some_iff.mp H
    obtain ⟨t265, A100, H⟩ := H
    try dsimp -simprocs only at H
    have A10 := Aside0.mk A100
    clear A100
    replace H := Option.bind_eq_some_iff.mp H
    obtain ⟨t266, A110, H⟩ := H
    try dsimp -simprocs only at H
    have A11 := Aside0.mk A110
    clear A110
    by_cases c12 : 0 < (t266.size : Int)
    ·
     rw [if_pos c12] at H
     have c12b0 : decide (0 < (t266.size : Int)) = true := decide_eq_true c12
     have c12b1 : decide (0 < t266.size) = true := decide_eq_true (by omega)
     clear c12
     by_cases c14 : 0 < (t265.size : Int)
     ·
      rw [if_pos c14] at H
      have c14b0 : decide (0 < (t265.size : Int)) = true := decide_eq_true c14
      have c14b1 : decide (0 < t265.size) = true := decide_eq_true (by omega)
      clear c14
      replace H := Option.bind_eq_some_iff.mp H
      obtain ⟨t267, A160, H⟩ := H
      try dsimp -simprocs only at H
      have A16 := Aside0.mk A160
      clear A160
      have HC17 := Aside0.mk H
      clear H
      try go_wp2_with (first | ((with_reducible refine gX_ 56 28 rfl rfl ?_); refine goesY_ (some 28) Try.func56 #[.int .i64 a0, .int .u64 a1] ?_; (with_reducible refine (vernierref06_String.calls kj3 a0 a1 t265 _ A10.out).mono ?_); rintro e w18 ⟨rfl, hb⟩; refine ⟨_, rfl, ?_⟩; replace BK262 := Aside0.mk (bB3 BK262.out hb); replace HB := Aside0.mk (bS3 HB.out hb); (try clear hb); (try clear hk)))
      have n0_ := Aside0.mk (bD BK262.out)
      have n1_ := Aside0.mk (p1 HB.out)
      clear BK262
      clear HB
      have BK262 := n0_
      have HB := n1_
      clear n0_ n1_
      have p15 : 0 ≤ (0 : Int) := (by omega)
      have q15 : 0 < t265.size := (by have : (0 : Int) < (t265.size : Int) := of_decide_eq_true (by first | (with_reducible assumption) | assumption); omega)
      have hx15 : ∀ h : 0 < t265.size, ((t265[0]'h).toNat : Int) = bt t265 0 := bt_at t265 0
      clear p15
      have qi15 : (0 < (t265.size : Int)) = True := eq_true (of_decide_eq_true (by first | (with_reducible assumption) | assumption))
      replace q15 := eq_true q15
      refine start_ (n := 13) (S := fun w' => True) (ds := []) #[false, false, false, false, false, false, false, false, false, false, false, false, false] (by kernel_rfl) rfl rfl trivial (fun hHeld => ?_); refine with_tabW vernierref06_Split.tab5 vernierref06_Split.bits5 (fun HT_ HW_ => ?_)
      generalize w18.drew = w19 at BK262 HB hHeld ⊢
      refine pure_ (i := 0) (N := some 29) (v := ?_) (a' := ?_) #[true, false, false, false, false, false, false, false, false, false, false, false, false] rfl rfl (any_of HT_.out (by kernel_rfl)) (fun _ _ _ h => h) (Or.inl ⟨by rfl, ?_⟩) ?_ ?_
      rotate_left
      ·
       intro w'
       go_simp
       with_reducible rfl
      rotate_left
      ·
       simp only [Act.put, lS_, lZ_, lC_, i64_w, i32_w]
       rfl
      refine pure_ (i := 1) (N := some 30) (v := ?_) (a' := ?_) #[true, true, false, false, false, false, false, false, false, false, false, false, false] rfl rfl (any_of HT_.out (by kernel_rfl)) (fun _ _ _ h => h) (Or.inl ⟨by rfl, ?_⟩) ?_ ?_
      rotate_left
      ·
       intro w'
       go_simp
       with_reducible rfl
      rotate_left
      ·
       simp only [Act.put, lS_, lZ_, lC_, i64_w, i32_w]
       rfl
      refine pure_ (i := 5) (N := some 34) (v := ?_) (a' := ?_) #[true, true, false, false, false, true, false, false, false, false, false, false, false] rfl rfl (any_of HT_.out (by kernel_rfl)) (fun _ _ _ h => h) (Or.inl ⟨by rfl, ?_⟩) ?_ ?_
      rotate_left
      ·
       intro w'
       go_simp
       with_reducible rfl
      rotate_left
      ·
       simp only [Act.put, lS_, lZ_, lC_, i64_w, i32_w]
       rfl
      refine pure_ (i := 8) (N := some 37) (v := ?_) (a' := ?_) #[true, true, false, false, false, true, false, false, true, false, false, false, false] rfl rfl (any_of HT_.out (by kernel_rfl)) (fun _ _ _ h => h) (Or.inl ⟨by rfl, ?_⟩) ?_ ?_
      rotate_left
      ·
       intro w'
       go_simp
       with_reducible rfl
      rotate_left
      ·
       simp only [Act.put, lS_, lZ_, lC_, i64_w, i32_w]
       rfl
      refine take_ (i := 6) (N := some 35) (v := ?_) (a' := ?_) #[true, true, false, false, false, true, true, false, true, false, false, false, false] rfl rfl (take_ofW HT_.out HW_.out (by kernel_rfl)) (fun _ _ _ h => h) (Or.inl ⟨by rfl, ?_⟩) hHeld ?_ ?_
      rotate_left
      ·
       intro w' _
       go_simp
       with_reducible rfl
      rotate_left
      ·
       simp only [Act.put, lS_, lZ_, lC_, i64_w, i32_w]
       rfl
      refine pure_ (i := 7) (N := some 36) (v := ?_) (a' := ?_) #[true, true, false, false, false, true, true, true, true, false, false, false, false] rfl rfl (any_of HT_.out (by kernel_rfl)) (fun _ _ _ h => h) (Or.inl ⟨by rfl, ?_⟩) ?_ ?_
      rotate_left
      ·
       intro w'
       go_simp
       with_reducible rfl
      rotate_left
      ·
       simp only [Act.put, lS_, lZ_, lC_, i64_w, i32_w]
       rfl
      have p13 : 0 ≤ (0 : Int) := (by omega)
      have q13 : 0 < t266.size := (by have : (0 : Int) < (t266.size : Int) := of_decide_eq_true (by first | (with_reducible assumption) | assumption); omega)
      have hx13 : ∀ h : 0 < t266.size, ((t266[0]'h).toNat : Int) = bt t266 0 := bt_at t266 0
      clear p13
      have qi13 : (0 < (t266.size : Int)) = True := eq_true (of_decide_eq_true (by first | (with_reducible assumption) | assumption))
      replace q13 := eq_true q13
      refine join_ (σ := Nat) 1 #[true, true, true, true, true, true, true, true, true, true, true, true, false] (fun s_ => [(31, .string t266), (38, .int .i64 t267), (9, .pointer (some ⟨s_, 0, none⟩)), (32, .int .u8 (bt t266 0)), (33, .bool ((bt t266 0) == 49)), (39, .agg #[.bool ((bt t266 0) == 49), .bool ((bt t265 0) == 49), .int .i64 t267, .int .i64 0, .int .i64 0, .int .i64 0, .int .i64 0, .int .u64 0])]) (fun s_ w' => (w'.heap[gb262]? = some (.cells #[.bool false, .bool false, .int .i64 0, .int .i64 0, .int .i64 0, .int .i64 0, .int .i64 0, .int .u64 0] 84 (0, 0))) ∧ (w'.heap[s_]? = some (.cells #[.bool false, .bool false, .int .i64 0, .int .i64 0, .int .i64 0, .int .i64 0, .int .i64 0, .int .u64 0] 84 (0, 0))) ∧ (w.heap.size ≤ s_) ∧ (w.heap.size ≤ s_) ∧ (gb262 ≠ s_) ∧ (s_ ≠ gb262) ∧ (Below w.heap.size w w')) ?_ ?_
      rotate_left
      ·
       intro hCont
       refine two_ (i := 2) (j := 11) (Ni := some 31) (Nj := some 9) #[true, true, true, false, false, true, true, true, true, false, false, false, false] #[true, true, false, false, false, true, true, true, true, false, false, true, false] rfl rfl rfl rfl (two_of HT_.out (by kernel_rfl)) (by decide) (by decide) (fun K hK => ?_) (fun K hK => ?_)
       ·
        skip
        refine goes_ Try.func39 (by kernel_rfl) rfl #[.int .u64 a1, .int .i64 a0] (by rfl) rfl rfl (by (try simp only [List.map_toArray, List.map_cons, List.map_nil]); first | done | rfl | (simp only [List.length_drop, List.length_take]; rfl)) ?_
        with_reducible refine (vernierref01_Text.calls kj3 a1 a0 t266 _ A11.out).mono ?_
        rintro e w20 ⟨rfl, hb⟩
        refine ⟨_, rfl, ?_⟩
        have n0_ := Aside0.mk (bB3 BK262.out hb)
        have n1_ := Aside0.mk (bS3 HB.out hb)
        clear BK262
        clear HB
        have BK262 := n0_
        have HB := n1_
        clear n0_ n1_
        (try clear hb)
        (try clear hb2)
        (try clear hk)
        (try clear hi)
        refine hK.out _ _ trivial (fun hHeld => ?_)
        clear hK K
        refine norm_ (a' := ?_) ?_ ?_
        rotate_left
        ·
         show Act.put _ (some 31) _ = _
         simp only [Act.put, lS_, lZ_, lC_, i64_w, i32_w]
         rfl
        refine take_ (i := 3) (N := some 32) (v := ?_) (a' := ?_) #[true, true, true, true, false, true, true, true, true, false, false, false, false] rfl rfl (take_ofW HT_.out HW_.out (by kernel_rfl)) (fun _ _ _ h => h) (Or.inl ⟨by rfl, ?_⟩) hHeld ?_ ?_
        rotate_left
        ·
         intro w' _
         go_simp
         with_reducible rfl
        rotate_left
        ·
         simp only [Act.put, lS_, lZ_, lC_, i64_w, i32_w]
         rfl
        refine pure_ (i := 4) (N := some 33) (v := ?_) (a' := ?_) #[true, true, true, true, true, true, true, true, true, false, false, false, false] rfl rfl (any_of HT_.out (by kernel_rfl)) (fun _ _ _ h => h) (Or.inl ⟨by rfl, ?_⟩) ?_ ?_
        rotate_left
        ·
         intro w'
         go_simp
         with_reducible rfl
        rotate_left
        ·
         simp only [Act.put, lS_, lZ_, lC_, i64_w, i32_w]
         rfl
        refine two_ (i := 9) (j := 11) (Ni := some 38) (Nj := some 9) #[true, true, true, true, true, true, true, true, true, true, false, false, false] #[true, true, true, true, true, true, true, true, true, false, false, true, false] rfl rfl rfl rfl (two_of HT_.out (by kernel_rfl)) (by decide) (by decide) (fun K hK => ?_) (fun K hK => ?_)
        ·
         skip
         refine goes_ Try.func57 (by kernel_rfl) rfl #[.string t265] (by rfl) rfl rfl (by (try simp only [List.map_toArray, List.map_cons, List.map_nil]); first | done | rfl | (simp only [List.length_drop, List.length_take]; rfl)) ?_
         with_reducible refine (vernierref06_run.calls kj3 t265 t267 _ A16.out).mono ?_
         rintro e w' ⟨rfl, ⟨nd, rfl⟩⟩
         refine ⟨_, rfl, ?_⟩
         refine hK.out _ _ trivial (fun hHeld => ?_)
         clear hK K
         refine norm_ (a' := ?_) ?_ ?_
         rotate_left
         ·
          show Act.put _ (some 38) _ = _
          simp only [Act.put, lS_, lZ_, lC_, i64_w, i32_w]
          rfl
         refine pure_ (i := 10) (N := some 39) (v := ?_) (a' := ?_) #[true, true, true, true, true, true, true, true, true, true, true, false, false] rfl rfl (any_of HT_.out (by kernel_rfl)) (fun _ _ _ h => h) (Or.inl ⟨by rfl, ?_⟩) ?_ ?_
         rotate_left
         ·
          intro w'
          go_simp
          with_reducible rfl
         rotate_left
         ·
          simp only [Act.put, lS_, lZ_, lC_, i64_w, i32_w]
          rfl
         refine one_ (i := 11) (N := some 9) #[true, true, true, true, true, true, true, true, true, true, true, true, false] rfl rfl (one_of HT_.out (by kernel_rfl)) (by decide) (fun K hK => ?_)
         refine box_step ?hg (N := 9) ?hd (cs := #[.bool false, .bool false, .int .i64 0, .int .i64 0, .int .i64 0, .int .i64 0, .int .i64 0, .int .u64 0]) (t := 84) ?hr ?_; (case hd => rfl); (case hg => rfl); (case hr => first | (go_simp; done) | (go_simp; rfl))
         intro gb268 hg w21 hbox hb
         have n0_ := Aside0.mk (bB3 BK262.out hb)
         have n1_ := Aside0.mk (bS3 HB.out hb)
         have n2_ := Aside0.mk (hbox)
         have n3_ := Aside0.mk ((bZ3 hg HB.out))
         have n4_ := Aside0.mk ((bZ3 hg HB.out))
         have n5_ := Aside0.mk ((bL3 hg BK262.out))
         have n6_ := Aside0.mk ((bG3 hg BK262.out))
         clear BK262
         clear HB
         have BK262 := n0_
         have HB := n1_
         have BK268 := n2_
         have GW268 := n3_
         have GE268 := n4_
         have NB262_268 := n5_
         have NB268_262 := n6_
         clear n0_ n1_ n2_ n3_ n4_ n5_ n6_
         clear hb hbox hg
         refine hK.out _ _ trivial (fun hHeld => ?_)
         clear hK K
         refine norm_ (a' := ?_) ?_ ?_
         rotate_left
         ·
          show Act.put _ (some 9) _ = _
          simp only [Act.put, lS_, lZ_, lC_, i64_w, i32_w]
          rfl
         exact norm_ (by simp only [putAll, Act.put, lS_, lZ_, lC_]) (hCont (gb268) _ ⟨(bK3 BK262.out), (bK3 BK268.out), GW268.out, GE268.out, NB262_268.out, NB268_262.out, (bR3 HB.out)⟩)
        ·
         skip
         refine box_step ?hg (N := 9) ?hd (cs := #[.bool false, .bool false, .int .i64 0, .int .i64 0, .int .i64 0, .int .i64 0, .int .i64 0, .int .u64 0]) (t := 84) ?hr ?_; (case hd => rfl); (case hg => rfl); (case hr => first | (go_simp; done) | (go_simp; rfl))
         intro gb268 hg w21 hbox hb
         have n0_ := Aside0.mk (bB3 BK262.out hb)
         have n1_ := Aside0.mk (bS3 HB.out hb)
         have n2_ := Aside0.mk (hbox)
         have n3_ := Aside0.mk ((bZ3 hg HB.out))
         have n4_ := Aside0.mk ((bZ3 hg HB.out))
         have n5_ := Aside0.mk ((bL3 hg BK262.out))
         have n6_ := Aside0.mk ((bG3 hg BK262.out))
         clear BK262
         clear HB
         have BK262 := n0_
         have HB := n1_
         have BK268 := n2_
         have GW268 := n3_
         have GE268 := n4_
         have NB262_268 := n5_
         have NB268_262 := n6_
         clear n0_ n1_ n2_ n3_ n4_ n5_ n6_
         clear hb hbox hg
         refine hK.out _ _ trivial (fun hHeld => ?_)
         clear hK K
         refine norm_ (a' := ?_) ?_ ?_
         rotate_left
         ·
          show Act.put _ (some 9) _ = _
          simp only [Act.put, lS_, lZ_, lC_, i64_w, i32_w]
          rfl
         refine one_ (i := 9) (N := some 38) #[true, true, true, true, true, true, true, true, true, true, false, true, false] rfl rfl (one_of HT_.out (by kernel_rfl)) (by decide) (fun K hK => ?_)
         refine goes_ Try.func57 (by kernel_rfl) rfl #[.string t265] (by rfl) rfl rfl (by (try simp only [List.map_toArray, List.map_cons, List.map_nil]); first | done | rfl | (simp only [List.length_drop, List.length_take]; rfl)) ?_
         with_reducible refine (vernierref06_run.calls kj3 t265 t267 _ A16.out).mono ?_
         rintro e w' ⟨rfl, ⟨nd, rfl⟩⟩
         refine ⟨_, rfl, ?_⟩
         refine hK.out _ _ trivial (fun hHeld => ?_)
         clear hK K
         refine norm_ (a' := ?_) ?_ ?_
         rotate_left
         ·
          show Act.put _ (some 38) _ = _
          simp only [Act.put, lS_, lZ_, lC_, i64_w, i32_w]
          rfl
         refine pure_ (i := 10) (N := some 39) (v := ?_) (a' := ?_) #[true, true, true, true, true, true, true, true, true, true, true, true, false] rfl rfl (any_of HT_.out (by kernel_rfl)) (fun _ _ _ h => h) (Or.inl ⟨by rfl, ?_⟩) ?_ ?_
         rotate_left
         ·
          intro w'
          go_simp
          with_reducible rfl
         rotate_left
         ·
          simp only [Act.put, lS_, lZ_, lC_, i64_w, i32_w]
          rfl
         exact norm_ (by simp only [putAll, Act.put, lS_, lZ_, lC_]) (hCont (gb268) _ ⟨(bK3 BK262.out), (bK3 BK268.out), GW268.out, GE268.out, NB262_268.out, NB268_262.out, (bR3 HB.out)⟩)
       ·
        skip
        refine box_step ?hg (N := 9) ?hd (cs := #[.bool false, .bool false, .int .i64 0, .int .i64 0, .int .i64 0, .int .i64 0, .int .i64 0, .int .u64 0]) (t := 84) ?hr ?_; (case hd => rfl); (case hg => rfl); (case hr => first | (go_simp; done) | (go_simp; rfl))
        intro gb268 hg w20 hbox hb
        have n0_ := Aside0.mk (bB3 BK262.out hb)
        have n1_ := Aside0.mk (bS3 HB.out hb)
        have n2_ := Aside0.mk (hbox)
        have n3_ := Aside0.mk ((bZ3 hg HB.out))
        have n4_ := Aside0.mk ((bZ3 hg HB.out))
        have n5_ := Aside0.mk ((bL3 hg BK262.out))
        have n6_ := Aside0.mk ((bG3 hg BK262.out))
        clear BK262
        clear HB
        have BK262 := n0_
        have HB := n1_
        have BK268 := n2_
        have GW268 := n3_
        have GE268 := n4_
        have NB262_268 := n5_
        have NB268_262 := n6_
        clear n0_ n1_ n2_ n3_ n4_ n5_ n6_
        clear hb hbox hg
        refine hK.out _ _ trivial (fun hHeld => ?_)
        clear hK K
        refine norm_ (a' := ?_) ?_ ?_
        rotate_left
        ·
         show Act.put _ (some 9) _ = _
         simp only [Act.put, lS_, lZ_, lC_, i64_w, i32_w]
         rfl
        refine one_ (i := 2) (N := some 31) #[true, true, true, false, false, true, true, true, true, false, false, true, false] rfl rfl (one_of HT_.out (by kernel_rfl)) (by decide) (fun K hK => ?_)
        refine goes_ Try.func39 (by kernel_rfl) rfl #[.int .u64 a1, .int .i64 a0] (by rfl) rfl rfl (by (try simp only [List.map_toArray, List.map_cons, List.map_nil]); first | done | rfl | (simp only [List.length_drop, List.length_take]; rfl)) ?_
        with_reducible refine (vernierref01_Text.calls kj3 a1 a0 t266 _ A11.out).mono ?_
        rintro e w21 ⟨rfl, hb⟩
        refine ⟨_, rfl, ?_⟩
        have n0_ := Aside0.mk (bB3 BK262.out hb)
        have n1_ := Aside0.mk (bB3 BK268.out hb)
        have n2_ := Aside0.mk (bS3 HB.out hb)
        clear BK262
        clear BK268
        clear HB
        have BK262 := n0_
        have BK268 := n1_
        have HB := n2_
        clear n0_ n1_ n2_
        (try clear hb)
        (try clear hb2)
        (try clear hk)
        (try clear hi)
        refine hK.out _ _ trivial (fun hHeld => ?_)
        clear hK K
        refine norm_ (a' := ?_) ?_ ?_
        rotate_left
        ·
         show Act.put _ (some 31) _ = _
         simp only [Act.put, lS_, lZ_, lC_, i64_w, i32_w]
         rfl
        refine take_ (i := 3) (N := some 32) (v := ?_) (a' := ?_) #[true, true, true, true, false, true, true, true, true, false, false, true, false] rfl rfl (take_ofW HT_.out HW_.out (by kernel_rfl)) (fun _ _ _ h => h) (Or.inl ⟨by rfl, ?_⟩) hHeld ?_ ?_
        rotate_left
        ·
         intro w' _
         go_simp
         with_reducible rfl
        rotate_left
        ·
         simp only [Act.put, lS_, lZ_, lC_, i64_w, i32_w]
         rfl
        refine pure_ (i := 4) (N := some 33) (v := ?_) (a' := ?_) #[true, true, true, true, true, true, true, true, true, false, false, true, false] rfl rfl (any_of HT_.out (by kernel_rfl)) (fun _ _ _ h => h) (Or.inl ⟨by rfl, ?_⟩) ?_ ?_
        rotate_left
        ·
         intro w'
         go_simp
         with_reducible rfl
        rotate_left
        ·
         simp only [Act.put, lS_, lZ_, lC_, i64_w, i32_w]
         rfl
        refine one_ (i := 9) (N := some 38) #[true, true, true, true, true, true, true, true, true, true, false, true, false] rfl rfl (one_of HT_.out (by kernel_rfl)) (by decide) (fun K hK => ?_)
        refine goes_ Try.func57 (by kernel_rfl) rfl #[.string t265] (by rfl) rfl rfl (by (try simp only [List.map_toArray, List.map_cons, List.map_nil]); first | done | rfl | (simp only [List.length_drop, List.length_take]; rfl)) ?_
        with_reducible refine (vernierref06_run.calls kj3 t265 t267 _ A16.out).mono ?_
        rintro e w' ⟨rfl, ⟨nd, rfl⟩⟩
        refine ⟨_, rfl, ?_⟩
        refine hK.out _ _ trivial (fun hHeld => ?_)
        clear hK K
        refine norm_ (a' := ?_) ?_ ?_
        rotate_left
        ·
         show Act.put _ (some 38) _ = _
         simp only [Act.put, lS_, lZ_, lC_, i64_w, i32_w]
         rfl
        refine pure_ (i := 10) (N := some 39) (v := ?_) (a' := ?_) #[true, true, true, true, true, true, true, true, true, true, true, true, false] rfl rfl (any_of HT_.out (by kernel_rfl)) (fun _ _ _ h => h) (Or.inl ⟨by rfl, ?_⟩) ?_ ?_
        rotate_left
        ·
         intro w'
         go_simp
         with_reducible rfl
        rotate_left
        ·
         simp only [Act.put, lS_, lZ_, lC_, i64_w, i32_w]
         rfl
        exact norm_ (by simp only [putAll, Act.put, lS_, lZ_, lC_]) (hCont (gb268) _ ⟨(bK3 BK262.out), (bK3 BK268.out), GW268.out, GE268.out, NB262_268.out, NB268_262.out, (bR3 HB.out)⟩)
      rintro gb268 w22 ⟨h0_, h1_, h2_, h3_, h4_, h5_, h6_⟩
      have n0_ : Aside0 (w22.heap[gb262]? = some (.cells #[.bool false, .bool false, .int .i64 0, .int .i64 0, .int .i64 0, .int .i64 0, .int .i64 0, .int .u64 0] 84 (0, 0))) := ⟨h0_⟩
      have n1_ : Aside0 (w22.heap[gb268]? = some (.cells #[.bool false, .bool false, .int .i64 0, .int .i64 0, .int .i64 0, .int .i64 0, .int .i64 0, .int .u64 0] 84 (0, 0))) := ⟨h1_⟩
      have n2_ : Aside0 (w.heap.size ≤ gb268) := ⟨h2_⟩
      have n3_ : Aside0 (w.heap.size ≤ gb268) := ⟨h3_⟩
      have n4_ : Aside0 (gb262 ≠ gb268) := ⟨h4_⟩
      have n5_ : Aside0 (gb268 ≠ gb262) := ⟨h5_⟩
      have n6_ : Aside0 (Below w.heap.size w w22) := ⟨h6_⟩
      clear BK262
      clear HB
      clear h0_ h1_ h2_ h3_ h4_ h5_ h6_
      have BK262 := n0_
      have BK268 := n1_
      have GW268 := n2_
      have GE268 := n3_
      have NB262_268 := n4_
      have NB268_262 := n5_
      have HB := n6_
      clear n0_ n1_ n2_ n3_ n4_ n5_ n6_
      have hHeld := trivial
      have p13 : 0 ≤ (0 : Int) := (by omega)
      have q13 : 0 < t266.size := (by have : (0 : Int) < (t266.size : Int) := of_decide_eq_true (by first | (with_reducible assumption) | assumption); omega)
      have hx13 : ∀ h : 0 < t266.size, ((t266[0]'h).toNat : Int) = bt t266 0 := bt_at t266 0
      clear p13
      have qi13 : (0 < (t266.size : Int)) = True := eq_true (of_decide_eq_true (by first | (with_reducible assumption) | assumption))
      replace q13 := eq_true q13
      refine norm_ (a' := ?_) ?_ ?_
      rotate_left
      ·
       simp only [putAll, Act.put, lS_, lZ_, lC_]
       rfl
      refine one_ (i := 12) (N := none) #[true, true, true, true, true, true, true, true, true, true, true, true, true] rfl rfl (one_of HT_.out (by kernel_rfl)) (by decide) (fun K hK => ?_)
      have hs23 : w22.cell? ⟨gb268, 0, none⟩ = some (.bool false) := (blk_cell BK268.out 0).trans rfl
      have hfs23 := blk_frozen BK268.out 0
      have hns23_0 := NB262_268.out
      have hms23_0 := NB268_262.out
      have hs24 : w22.cell? ⟨gb268, 1, none⟩ = some (.bool false) := (blk_cell BK268.out 1).trans rfl
      have hfs24 := blk_frozen BK268.out 1
      have hns24_0 := NB262_268.out
      have hms24_0 := NB268_262.out
      have hs25 : w22.cell? ⟨gb268, 2, none⟩ = some (.int .i64 0) := (blk_cell BK268.out 2).trans rfl
      have hfs25 := blk_frozen BK268.out 2
      have hns25_0 := NB262_268.out
      have hms25_0 := NB268_262.out
      have hs26 : w22.cell? ⟨gb268, 3, none⟩ = some (.int .i64 0) := (blk_cell BK268.out 3).trans rfl
      have hfs26 := blk_frozen BK268.out 3
      have hns26_0 := NB262_268.out
      have hms26_0 := NB268_262.out
      have hs27 : w22.cell? ⟨gb268, 4, none⟩ = some (.int .i64 0) := (blk_cell BK268.out 4).trans rfl
      have hfs27 := blk_frozen BK268.out 4
      have hns27_0 := NB262_268.out
      have hms27_0 := NB268_262.out
      have hs28 : w22.cell? ⟨gb268, 5, none⟩ = some (.int .i64 0) := (blk_cell BK268.out 5).trans rfl
      have hfs28 := blk_frozen BK268.out 5
      have hns28_0 := NB262_268.out
      have hms28_0 := NB268_262.out
      have hs29 : w22.cell? ⟨gb268, 6, none⟩ = some (.int .i64 0) := (blk_cell BK268.out 6).trans rfl
      have hfs29 := blk_frozen BK268.out 6
      have hns29_0 := NB262_268.out
      have hms29_0 := NB268_262.out
      have hs30 : w22.cell? ⟨gb268, 7, none⟩ = some (.int .u64 0) := (blk_cell BK268.out 7).trans rfl
      have hfs30 := blk_frozen BK268.out 7
      have hns30_0 := NB262_268.out
      have hms30_0 := NB268_262.out
      refine skip_ (w1 := ?_) (by rfl) rfl ?_ ?_
      rotate_left
      ·
       go_simp
       rfl
      refine hK.out _ _ trivial (fun hHeld => ?_)
      clear hK K
      refine done_ (done_of HT_.out (by kernel_rfl)) ?_
      have hnb31 := NB268_262.out
      have hnc31 := NB262_268.out
      obtain ⟨hcz32_0, hcz32_1, hcz32_2, hcz32_3, hcz32_4, hcz32_5, hcz32_6, hcz32_7, hfz32_0, hfz32_1, hfz32_2, hfz32_3, hfz32_4, hfz32_5, hfz32_6, hfz32_7⟩ := cl8 BK268.out
      go_upto_if 45 with (fail)
      go_cut [] (fun wc => ∃ (kq : Nat) (x269003_16 : Int), Aside0 (vernierref06_Split.j1 kq t265 ((bt t266 0) == 49) ((bt t265 0) == 49) t267 x269003_16 0 0 0 0 = some (r1, r2, r3, r4, r5, r6, r7, r8, r9)) ∧ Aside0 (kq ≤ kj3) ∧ Aside0 (wc.heap[gb262]? = some (.cells #[.bool false, .bool false, .int .i64 0, .int .i64 0, .int .i64 0, .int .i64 0, .int .i64 0, .int .u64 0] 84 (0, 0))) ∧ Aside0 (wc.heap[gb268]? = some (.cells #[.bool ((bt t266 0) == 49), .bool ((bt t265 0) == 49), .int .i64 t267, .int .i64 x269003_16, .int .i64 0, .int .i64 0, .int .i64 0, .int .u64 0] 84 (0, 0))) ∧ Aside0 (Below w.heap.size w wc))
      case first =>
       have H := HC17.out
       clear HC17
       by_cases c33 : (bt t265 0) = 49
       ·
        rw [if_pos c33] at H
        have c33b0 : ((bt t265 0) == 49) = true := beq_iff_eq.mpr c33
        have c33b1 : ((bt t265 0) != 49) = false := bne_eq_false_iff_eq.mpr c33
        clear c33
        (first | rw [c33b0] | (simp only [i64_w, i32_w]; rw [c33b0]) | skip)
        have H' := Aside0.mk H
        clear H
        have hnb34 := NB268_262.out
        have hnc34 := NB262_268.out
        obtain ⟨hcz35_0, hcz35_1, hcz35_2, hcz35_3, hcz35_4, hcz35_5, hcz35_6, hcz35_7, hfz35_0, hfz35_1, hfz35_2, hfz35_3, hfz35_4, hfz35_5, hfz35_6, hfz35_7⟩ := cl8 BK268.out
        apply anewC_ gb268
        ·
         repeat (first | (with_reducible refine bN ?_ _) | (with_reducible refine bD ?_) | (with_reducible refine blk_drewN ?_ _) | (with_reducible refine blk_drew ?_) | (with_reducible apply blk_set) | (with_reducible exact BK268.out))
        intro wz t_ k1_
        have told_ := Aside0.mk t_
        clear t_
        simp only [lS_, lZ_, lC_] at k1_
        have hy1_0 := blk_cellL k1_ 0 _ rfl
        have hy1_1 := blk_cellL k1_ 1 _ rfl
        have hy1_2 := blk_cellL k1_ 2 _ rfl
        have hy1_3 := blk_cellL k1_ 3 _ rfl
        have hy1_4 := blk_cellL k1_ 4 _ rfl
        have hy1_5 := blk_cellL k1_ 5 _ rfl
        have hy1_6 := blk_cellL k1_ 6 _ rfl
        have hy1_7 := blk_cellL k1_ 7 _ rfl
        have hy3_0 := blk_frozen k1_ 0
        have hy3_1 := blk_frozen k1_ 1
        have hy3_2 := blk_frozen k1_ 2
        have hy3_3 := blk_frozen k1_ 3
        have hy3_4 := blk_frozen k1_ 4
        have hy3_5 := blk_frozen k1_ 5
        have hy3_6 := blk_frozen k1_ 6
        have hy3_7 := blk_frozen k1_ 7
        clear k1_
        go_wp2
        have t_ := told_.out
        clear told_
        subst t_
        go_meet
        case rel => exact ⟨_, (wrap64 (t267 - 1)), H', ⟨by have := HJ3.out; first | omega | exact Nat.le_refl _⟩, ⟨bQ3 BK262.out⟩, ⟨by (with_reducible repeat (first | refine bN ?_ _ | refine bD ?_ | refine bA ?_ _)); refine blk_put (cs := #[.bool ((bt t266 0) == 49), .bool ((bt t265 0) == 49), .int .i64 t267, .int .i64 (wrap64 (-t267)), .int .i64 0, .int .i64 0, .int .i64 0, .int .u64 0]) ?_ 3 _ rfl; (with_reducible repeat (first | refine bN ?_ _ | refine bD ?_ | refine bA ?_ _)); refine blk_put (cs := #[.bool ((bt t266 0) == 49), .bool ((bt t265 0) == 49), .int .i64 t267, .int .i64 0, .int .i64 0, .int .i64 0, .int .i64 0, .int .u64 0]) ?_ 3 _ rfl; (with_reducible repeat (first | refine bN ?_ _ | refine bD ?_ | refine bA ?_ _)); refine blk_put (cs := #[.bool ((bt t266 0) == 49), .bool ((bt t265 0) == 49), .int .i64 t267, .int .i64 0, .int .i64 0, .int .i64 0, .int .i64 0, .int .u64 0]) ?_ 7 _ rfl; (with_reducible repeat (first | refine bN ?_ _ | refine bD ?_ | refine bA ?_ _)); refine blk_put (cs := #[.bool ((bt t266 0) == 49), .bool ((bt t265 0) == 49), .int .i64 t267, .int .i64 0, .int .i64 0, .int .i64 0, .int .i64 0, .int .u64 0]) ?_ 6 _ rfl; (with_reducible repeat (first | refine bN ?_ _ | refine bD ?_ | refine bA ?_ _)); refine blk_put (cs := #[.bool ((bt t266 0) == 49), .bool ((bt t265 0) == 49), .int .i64 t267, .int .i64 0, .int .i64 0, .int .i64 0, .int .i64 0, .int .u64 0]) ?_ 5 _ rfl; (with_reducible repeat (first | refine bN ?_ _ | refine bD ?_ | refine bA ?_ _)); refine blk_put (cs := #[.bool ((bt t266 0) == 49), .bool ((bt t265 0) == 49), .int .i64 t267, .int .i64 0, .int .i64 0, .int .i64 0, .int .i64 0, .int .u64 0]) ?_ 4 _ rfl; (with_reducible repeat (first | refine bN ?_ _ | refine bD ?_ | refine bA ?_ _)); refine blk_put (cs := #[.bool ((bt t266 0) == 49), .bool ((bt t265 0) == 49), .int .i64 t267, .int .i64 0, .int .i64 0, .int .i64 0, .int .i64 0, .int .u64 0]) ?_ 3 _ rfl; (with_reducible repeat (first | refine bN ?_ _ | refine bD ?_ | refine bA ?_ _)); refine blk_put (cs := #[.bool ((bt t266 0) == 49), .bool ((bt t265 0) == 49), .int .i64 0, .int .i64 0, .int .i64 0, .int .i64 0, .int .i64 0, .int .u64 0]) ?_ 2 _ rfl; (with_reducible repeat (first | refine bN ?_ _ | refine bD ?_ | refine bA ?_ _)); refine blk_put (cs := #[.bool ((bt t266 0) == 49), .bool false, .int .i64 0, .int .i64 0, .int .i64 0, .int .i64 0, .int .i64 0, .int .u64 0]) ?_ 1 _ (by first | rfl | (rw [c33b0]; rfl)); (with_reducible repeat (first | refine bN ?_ _ | refine bD ?_ | refine bA ?_ _)); refine blk_put (cs := #[.bool false, .bool false, .int .i64 0, .int .i64 0, .int .i64 0, .int .i64 0, .int .i64 0, .int .u64 0]) ?_ 0 _ rfl; (with_reducible repeat (first | refine bN ?_ _ | refine bD ?_ | refine bA ?_ _)); exact BK268.out⟩, ⟨bR3 HB.out⟩⟩
       ·
        rw [if_neg c33] at H
        have c33b0 : ((bt t265 0) == 49) = false := beq_eq_false_iff_ne.mpr c33
        have c33b1 : ((bt t265 0) != 49) = true := bne_iff_ne.mpr c33
        (first | rw [c33b0] | (simp only [i64_w, i32_w]; rw [c33b0]) | skip)
        have H' := Aside0.mk H
        clear H
        apply anewC_ gb268
        ·
         repeat (first | (with_reducible refine bN ?_ _) | (with_reducible refine bD ?_) | (with_reducible refine blk_drewN ?_ _) | (with_reducible refine blk_drew ?_) | (with_reducible apply blk_set) | (with_reducible exact BK268.out))
        intro wz t_ k1_
        have told_ := Aside0.mk t_
        clear t_
        simp only [lS_, lZ_, lC_] at k1_
        have hy1_0 := blk_cellL k1_ 0 _ rfl
        have hy1_1 := blk_cellL k1_ 1 _ rfl
        have hy1_2 := blk_cellL k1_ 2 _ rfl
        have hy1_3 := blk_cellL k1_ 3 _ rfl
        have hy1_4 := blk_cellL k1_ 4 _ rfl
        have hy1_5 := blk_cellL k1_ 5 _ rfl
        have hy1_6 := blk_cellL k1_ 6 _ rfl
        have hy1_7 := blk_cellL k1_ 7 _ rfl
        have hy3_0 := blk_frozen k1_ 0
        have hy3_1 := blk_frozen k1_ 1
        have hy3_2 := blk_frozen k1_ 2
        have hy3_3 := blk_frozen k1_ 3
        have hy3_4 := blk_frozen k1_ 4
        have hy3_5 := blk_frozen k1_ 5
        have hy3_6 := blk_frozen k1_ 6
        have hy3_7 := blk_frozen k1_ 7
        clear k1_
        go_wp2
        have t_ := told_.out
        clear told_
        subst t_
        go_meet
        case rel => exact ⟨_, (wrap64 (-t267)), H', ⟨by have := HJ3.out; first | omega | exact Nat.le_refl _⟩, ⟨bQ3 BK262.out⟩, ⟨by (with_reducible repeat (first | refine bN ?_ _ | refine bD ?_ | refine bA ?_ _)); refine blk_put (cs := #[.bool ((bt t266 0) == 49), .bool ((bt t265 0) == 49), .int .i64 t267, .int .i64 0, .int .i64 0, .int .i64 0, .int .i64 0, .int .u64 0]) ?_ 3 _ rfl; (with_reducible repeat (first | refine bN ?_ _ | refine bD ?_ | refine bA ?_ _)); refine blk_put (cs := #[.bool ((bt t266 0) == 49), .bool ((bt t265 0) == 49), .int .i64 t267, .int .i64 0, .int .i64 0, .int .i64 0, .int .i64 0, .int .u64 0]) ?_ 7 _ rfl; (with_reducible repeat (first | refine bN ?_ _ | refine bD ?_ | refine bA ?_ _)); refine blk_put (cs := #[.bool ((bt t266 0) == 49), .bool ((bt t265 0) == 49), .int .i64 t267, .int .i64 0, .int .i64 0, .int .i64 0, .int .i64 0, .int .u64 0]) ?_ 6 _ rfl; (with_reducible repeat (first | refine bN ?_ _ | refine bD ?_ | refine bA ?_ _)); refine blk_put (cs := #[.bool ((bt t266 0) == 49), .bool ((bt t265 0) == 49), .int .i64 t267, .int .i64 0, .int .i64 0, .int .i64 0, .int .i64 0, .int .u64 0]) ?_ 5 _ rfl; (with_reducible repeat (first | refine bN ?_ _ | refine bD ?_ | refine bA ?_ _)); refine blk_put (cs := #[.bool ((bt t266 0) == 49), .bool ((bt t265 0) == 49), .int .i64 t267, .int .i64 0, .int .i64 0, .int .i64 0, .int .i64 0, .int .u64 0]) ?_ 4 _ rfl; (with_reducible repeat (first | refine bN ?_ _ | refine bD ?_ | refine bA ?_ _)); refine blk_put (cs := #[.bool ((bt t266 0) == 49), .bool ((bt t265 0) == 49), .int .i64 t267, .int .i64 0, .int .i64 0, .int .i64 0, .int .i64 0, .int .u64 0]) ?_ 3 _ rfl; (with_reducible repeat (first | refine bN ?_ _ | refine bD ?_ | refine bA ?_ _)); refine blk_put (cs := #[.bool ((bt t266 0) == 49), .bool ((bt t265 0) == 49), .int .i64 0, .int .i64 0, .int .i64 0, .int .i64 0, .int .i64 0, .int .u64 0]) ?_ 2 _ rfl; (with_reducible repeat (first | refine bN ?_ _ | refine bD ?_ | refine bA ?_ _)); refine blk_put (cs := #[.bool ((bt t266 0) == 49), .bool false, .int .i64 0, .int .i64 0, .int .i64 0, .int .i64 0, .int .i64 0, .int .u64 0]) ?_ 1 _ (by first | rfl | (rw [c33b0]; rfl)); (with_reducible repeat (first | refine bN ?_ _ | refine bD ?_ | refine bA ?_ _)); refine blk_put (cs := #[.bool false, .bool false, .int .i64 0, .int .i64 0, .int .i64 0, .int .i64 0, .int .i64 0, .int .u64 0]) ?_ 0 _ rfl; (with_reducible repeat (first | refine bN ?_ _ | refine bD ?_ | refine bA ?_ _)); exact BK268.out⟩, ⟨bR3 HB.out⟩⟩
      case rest =>
       clear HC17
       try clear c1
       try clear p1
       try clear q1
       try clear hx1
       try clear qi1
       try clear p2
       try clear c3
       try clear c5
       try clear p6
       try clear c7
       try clear c7b0
       try clear c7b1
       try clear c8
       try clear c12
       try clear c12b0
       try clear c12b1
       try clear p13
       try clear q13
       try clear hx13
       try clear qi13
       try clear c14
       try clear c14b0
       try clear c14b1
       try clear p15
       try clear q15
       try clear hx15
       try clear qi15
       try clear c31
       try clear c33
       try clear c33b0
       try clear c33b1
       try clear c34
       try clear hcz32_0 hcz32_1 hcz32_2 hcz32_3 hcz32_4 hcz32_5 hcz32_6 hcz32_7
       try clear hcz35_0 hcz35_1 hcz35_2 hcz35_3 hcz35_4 hcz35_5 hcz35_6 hcz35_7
       try clear hcz9_0 hcz9_1 hcz9_2 hcz9_3 hcz9_4 hcz9_5 hcz9_6 hcz9_7
       try clear hfz32_0 hfz32_1 hfz32_2 hfz32_3 hfz32_4 hfz32_5 hfz32_6 hfz32_7
       try clear hfz35_0 hfz35_1 hfz35_2 hfz35_3 hfz35_4 hfz35_5 hfz35_6 hfz35_7
       try clear hfz9_0 hfz9_1 hfz9_2 hfz9_3 hfz9_4 hfz9_5 hfz9_6 hfz9_7
       try clear p13
       try clear p15
       try clear p2
       try clear q13
       try clear q15
       obtain ⟨kq, x269003_16, HA, HJ16, BK262, BK268, HB⟩ := hcut
       cases kq with
       | zero => exact absurd HA.out (by simp [vernierref06_Split.j1])
       | succ kj16 =>
        have H := HA.out
        clear HA
        simp only [vernierref06_Split.j1] at H
        have HC36 := Aside0.mk H
        clear H
        have hnb37 := NB268_262.out
        have hnc37 := NB262_268.out
        obtain ⟨hcz38_0, hcz38_1, hcz38_2, hcz38_3, hcz38_4, hcz38_5, hcz38_6, hcz38_7, hfz38_0, hfz38_1, hfz38_2, hfz38_3, hfz38_4, hfz38_5, hfz38_6, hfz38_7⟩ := cl8 BK268.out
        go_upto_if 54 with (fail)
        go_cut [10] (fun v10 wc => ∃ (kq : Nat) (x10_35 : ByteArray), v10 = .string x10_35 ∧ Aside0 (vernierref06_Split.j2 kq x10_35 ((bt t266 0) == 49) ((bt t265 0) == 49) t267 x269003_16 0 0 0 0 = some (r1, r2, r3, r4, r5, r6, r7, r8, r9)) ∧ Aside0 (kq ≤ kj16) ∧ Aside0 (wc.heap[gb262]? = some (.cells #[.bool false, .bool false, .int .i64 0, .int .i64 0, .int .i64 0, .int .i64 0, .int .i64 0, .int .u64 0] 84 (0, 0))) ∧ Aside0 (wc.heap[gb268]? = some (.cells #[.bool ((bt t266 0) == 49), .bool ((bt t265 0) == 49), .int .i64 t267, .int .i64 x269003_16, .int .i64 0, .int .i64 0, .int .i64 0, .int .u64 0] 84 (0, 0))) ∧ Aside0 (Below w.heap.size w wc))
        case first =>
         have H := HC36.out
         clear HC36
         by_cases c39 : t267 < (t265.size : Int)
         ·
          rw [if_pos c39] at H
          have c39b0 : decide (t267 < (t265.size : Int)) = true := decide_eq_true c39
          clear c39
          (first | rw [c39b0] | (simp only [i64_w, i32_w]; rw [c39b0]) | skip)
          obtain ⟨ji40, hji40⟩ : ∃ j_ : Int, (wrap64 (t267 + 1)) = j_ := ⟨_, rfl⟩
          replace H : (if 0 ≤ (ji40) then (if (ji40) ≤ (t265.size : Int) then (vernierref06_Split.j2 kj16 (t265.extract ((ji40) : Int).toNat t265.size) ((bt t266 0) == 49) ((bt t265 0) == 49) t267 x269003_16 0 0 0 0) else (none)) else (none)) = some (r1, r2, r3, r4, r5, r6, r7, r8, r9) := by first | (rw [hji40] at H; exact H) | (simp only [hji40] at H ⊢; exact H)
          have hji40w : (IntKind.i64.wrap (t267 + 1)) = ji40 := (i64_w _).trans hji40
          by_cases c41 : 0 ≤ (ji40)
          ·
           rw [if_pos c41] at H
           have c41b0 := eq_true c41
           have c41b1 : decide (0 ≤ (ji40)) = true := decide_eq_true c41
           clear c41
           by_cases c42 : (ji40) ≤ (t265.size : Int)
           ·
            rw [if_pos c42] at H
            have c42b0 := eq_true c42
            have c42b1 : decide ((ji40) ≤ (t265.size : Int)) = true := decide_eq_true c42
            clear c42
            have H' := Aside0.mk H
            clear H
            have hnb43 := NB268_262.out
            have hnc43 := NB262_268.out
            obtain ⟨hcz44_0, hcz44_1, hcz44_2, hcz44_3, hcz44_4, hcz44_5, hcz44_6, hcz44_7, hfz44_0, hfz44_1, hfz44_2, hfz44_3, hfz44_4, hfz44_5, hfz44_6, hfz44_7⟩ := cl8 BK268.out
            go_wp2
            go_meet
            case rel => exact ⟨_, (t265.extract ((ji40) : Int).toNat t265.size), (by first | rfl | (simp; done) | (simp only [← hji40] <;> (first | rfl | simp)) | (simp [*]; done)), H', ⟨by have := HJ3.out; have := HJ16.out; first | omega | exact Nat.le_refl _⟩, ⟨bK3 BK262.out⟩, ⟨bK3 BK268.out⟩, ⟨bR3 HB.out⟩⟩
           ·
            rw [if_neg c42] at H
            exact absurd H (by simp)
          ·
           rw [if_neg c41] at H
           exact absurd H (by simp)
         ·
          rw [if_neg c39] at H
          have c39b0 : decide (t267 < (t265.size : Int)) = false := decide_eq_false c39
          clear c39
          (first | rw [c39b0] | (simp only [i64_w, i32_w]; rw [c39b0]) | skip)
          have H' := Aside0.mk H
          clear H
          go_wp2
          go_meet
          case rel => exact ⟨_, ((⟨#[]⟩ : ByteArray)), (by first | rfl | (simp; done) | (simp [*]; done)), H', ⟨by have := HJ3.out; have := HJ16.out; first | omega | exact Nat.le_refl _⟩, ⟨bK3 BK262.out⟩, ⟨bK3 BK268.out⟩, ⟨bR3 HB.out⟩⟩
        case rest =>
         clear HC36
         try clear c1
         try clear p1
         try clear q1
         try clear hx1
         try clear qi1
         try clear p2
         try clear c3
         try clear c4
         try clear c5
         try clear p6
         try clear c7
         try clear c7b0
         try clear c7b1
         try clear c8
         try clear c12
         try clear c12b0
         try clear c12b1
         try clear p13
         try clear q13
         try clear hx13
         try clear qi13
         try clear c14
         try clear c14b0
         try clear c14b1
         try clear p15
         try clear q15
         try clear hx15
         try clear qi15
         try clear c31
         try clear c33
         try clear c33b0
         try clear c33b1
         try clear c34
         try clear c37
         try clear c39
         try clear c39b0
         try clear c41
         try clear c41b0
         try clear c41b1
         try clear c42
         try clear c42b0
         try clear c42b1
         try clear c43
         try clear hcz32_0 hcz32_1 hcz32_2 hcz32_3 hcz32_4 hcz32_5 hcz32_6 hcz32_7
         try clear hcz35_0 hcz35_1 hcz35_2 hcz35_3 hcz35_4 hcz35_5 hcz35_6 hcz35_7
         try clear hcz38_0 hcz38_1 hcz38_2 hcz38_3 hcz38_4 hcz38_5 hcz38_6 hcz38_7
         try clear hcz44_0 hcz44_1 hcz44_2 hcz44_3 hcz44_4 hcz44_5 hcz44_6 hcz44_7
         try clear hcz9_0 hcz9_1 hcz9_2 hcz9_3 hcz9_4 hcz9_5 hcz9_6 hcz9_7
         try clear hfz32_0 hfz32_1 hfz32_2 hfz32_3 hfz32_4 hfz32_5 hfz32_6 hfz32_7
         try clear hfz35_0 hfz35_1 hfz35_2 hfz35_3 hfz35_4 hfz35_5 hfz35_6 hfz35_7
         try clear hfz38_0 hfz38_1 hfz38_2 hfz38_3 hfz38_4 hfz38_5 hfz38_6 hfz38_7
         try clear hfz44_0 hfz44_1 hfz44_2 hfz44_3 hfz44_4 hfz44_5 hfz44_6 hfz44_7
         try clear hfz9_0 hfz9_1 hfz9_2 hfz9_3 hfz9_4 hfz9_5 hfz9_6 hfz9_7
         try clear p1
         try clear p13
         try clear p15
         try clear p2
         try clear p6
         try clear q1
         try clear q13
         try clear q15
         obtain ⟨kq, x10_35, rfl, HA, HJ35, BK262, BK268, HB⟩ := hcut
         cases kq with
         | zero => exact absurd HA.out (by simp [vernierref06_Split.j2])
         | succ kj35 =>
          have H := HA.out
          clear HA
          simp only [vernierref06_Split.j2] at H
          by_cases c45 : (x10_35.size : Int) > 2
          ·
           rw [if_pos c45] at H
           have c45b0 : decide (2 < (x10_35.size : Int)) = true := decide_eq_true c45
           have c45b1 : decide (2 < x10_35.size) = true := decide_eq_true (by omega)
           clear c45
           by_cases c46 : 0 ≤ 2
           ·
            rw [if_pos c46] at H
            have c46b0 := eq_true c46
            have c46b1 : decide (0 ≤ 2) = true := decide_eq_true c46
            clear c46
            by_cases c47 : 2 ≤ (x10_35.size : Int)
            ·
             rw [if_pos c47] at H
             have c47b0 := eq_true c47
             have c47b1 : decide (2 ≤ (x10_35.size : Int)) = true := decide_eq_true c47
             clear c47
             by_cases c48 : (x10_35.extract 0 2).size + 2 ≤ 9223372036854775807
             ·
              rw [if_pos c48] at H
              have c48b0 := eq_true c48
              have c48b1 : decide ((x10_35.extract 0 2).size + 2 ≤ 9223372036854775807) = true := decide_eq_true c48
              try have c48b2 : (9223372036854775807 < (x10_35.extract 0 2).size + 2) = False := eq_false (Nat.not_lt.2 c48)
              have c49b0 := eq_true (of_decide_eq_true (by first | (with_reducible assumption) | assumption) : 0 ≤ 2)
              by_cases c50 : 2 ≤ (((x10_35.extract 0 2) ++ (⟨#[48, 48]⟩ : ByteArray)).size : Int)
              ·
               rw [if_pos c50] at H
               have c50b0 := eq_true c50
               have c50b1 : decide (2 ≤ (((x10_35.extract 0 2) ++ (⟨#[48, 48]⟩ : ByteArray)).size : Int)) = true := decide_eq_true c50
               replace H := Option.bind_eq_some_iff.mp H
               obtain ⟨t269, A510, H⟩ := H
               try dsimp -simprocs only at H
               have A51 := Aside0.mk A510
               clear A510
               have c52b0 := eq_true (of_decide_eq_true (by first | (with_reducible assumption) | assumption) : 2 ≤ (x10_35.size : Int))
               replace H := Option.bind_eq_some_iff.mp H
               obtain ⟨t270, A530, H⟩ := H
               try dsimp -simprocs only at H
               have A53 := Aside0.mk A530
               clear A530
               simp only [Option.some.injEq, Prod.mk.injEq] at H
               obtain ⟨rfl, rfl, rfl, rfl, rfl, rfl, rfl, rfl, rfl⟩ := H
               have hnb54 := NB268_262.out
               have hnc54 := NB262_268.out
               obtain ⟨hcz55_0, hcz55_1, hcz55_2, hcz55_3, hcz55_4, hcz55_5, hcz55_6, hcz55_7, hfz55_0, hfz55_1, hfz55_2, hfz55_3, hfz55_4, hfz55_5, hfz55_6, hfz55_7⟩ := cl8 BK268.out
               go_wp2_with (first | ((with_reducible refine gate_dst (N := 89) rfl ?_); refine load_store_ (w0 := w) 89 gb268 gb262 #[.bool ((bt t266 0) == 49), .bool ((bt t265 0) == 49), .int .i64 t267, .int .i64 x269003_16, .int .i64 2, .int .i64 (wrap64 (t269)), .int .i64 (wrap64 ((x10_35.size : Int) - 2)), .int .u64 t270] #[.bool false, .bool false, .int .i64 0, .int .i64 0, .int .i64 0, .int .i64 0, .int .i64 0, .int .u64 0] 84 _ (by repeat (first | (with_reducible refine bN ?_ _) | (with_reducible refine bD ?_) | (with_reducible refine blk_drewN ?_ _) | (with_reducible refine blk_drew ?_) | (with_reducible apply blk_set) | (with_reducible exact BK268.out))) (by repeat (first | (with_reducible refine bN ?_ _) | (with_reducible refine bD ?_) | (with_reducible refine blk_drewN ?_ _) | (with_reducible refine blk_drew ?_) | (with_reducible refine blk_far ?_ NB262_268.out _) | (with_reducible exact BK262.out))) (bR3 HB.out) GE262.out Try.underlying84 (by kernel_rfl) ?_; intro wz kz_ HZ_) | ((with_reducible refine gX_ 40 74 rfl rfl ?_); refine goesY_ (some 74) Try.func40 #[.string (((x10_35.extract 0 2) ++ (⟨#[48, 48]⟩ : ByteArray)).extract 0 2)] ?_; (with_reducible refine (vernierref01_Number.calls kj35 (((x10_35.extract 0 2) ++ (⟨#[48, 48]⟩ : ByteArray)).extract 0 2) t269 _ A51.out).mono ?_); rintro e w' ⟨rfl, ⟨nd, rfl⟩⟩; refine ⟨_, rfl, ?_⟩) | ((with_reducible refine gX_ 40 87 rfl rfl ?_); refine goesY_ (some 87) Try.func40 #[.string (x10_35.extract 2 x10_35.size)] ?_; (with_reducible refine (vernierref01_Number.calls kj35 (x10_35.extract 2 x10_35.size) t270 _ A53.out).mono ?_); rintro e w' ⟨rfl, ⟨nd, rfl⟩⟩; refine ⟨_, rfl, ?_⟩; obtain ⟨hcz56_0, hcz56_1, hcz56_2, hcz56_3, hcz56_4, hcz56_5, hcz56_6, hcz56_7, hfz56_0, hfz56_1, hfz56_2, hfz56_3, hfz56_4, hfz56_5, hfz56_6, hfz56_7⟩ := cl8 BK262.out))
               refine bodyPost_ret (results_ct rfl _ _ gb262 84 #[.bool ((bt t266 0) == 49), .bool ((bt t265 0) == 49), .int .i64 t267, .int .i64 x269003_16, .int .i64 2, .int .i64 (wrap64 (t269)), .int .i64 (wrap64 ((x10_35.size : Int) - 2)), .int .u64 t270] (0, 0) _ rfl kz_ Try.underlying84 rfl (by kernel_rfl)) rfl ?_
               exact ⟨eR3, HZ_⟩
              ·
               rw [if_neg c50] at H
               exact absurd H (by simp)
             ·
              rw [if_neg c48] at H
              exact absurd H (by simp)
            ·
             rw [if_neg c47] at H
             exact absurd H (by simp)
           ·
            rw [if_neg c46] at H
            exact absurd H (by simp)
          ·
           rw [if_neg c45] at H
           have c45b0 : decide (2 < (x10_35.size : Int)) = false := decide_eq_false c45
           have c45b1 : decide (2 < x10_35.size) = false := decide_eq_false (by omega)
           clear c45
           by_cases c57 : 0 ≤ (x10_35.size : Int)
           ·
            rw [if_pos c57] at H
            have c57b0 := eq_true c57
            have c57b1 : decide (0 ≤ (x10_35.size : Int)) = true := decide_eq_true c57
            clear c57
            by_cases c58 : (x10_35.size : Int) ≤ (x10_35.size : Int)
            ·
             rw [if_pos c58] at H
             have c58b0 := eq_true c58
             have c58b1 : decide ((x10_35.size : Int) ≤ (x10_35.size : Int)) = true := decide_eq_true c58
             clear c58
             by_cases c59 : (x10_35.extract 0 ((x10_35.size : Int) : Int).toNat).size + 2 ≤ 9223372036854775807
             ·
              rw [if_pos c59] at H
              have c59b0 := eq_true c59
              have c59b1 : decide ((x10_35.extract 0 ((x10_35.size : Int) : Int).toNat).size + 2 ≤ 9223372036854775807) = true := decide_eq_true c59
              try have c59b2 : (9223372036854775807 < (x10_35.extract 0 ((x10_35.size : Int) : Int).toNat).size + 2) = False := eq_false (Nat.not_lt.2 c59)
              by_cases c60 : 0 ≤ 2
              ·
               rw [if_pos c60] at H
               have c60b0 := eq_true c60
               have c60b1 : decide (0 ≤ 2) = true := decide_eq_true c60
               clear c60
               by_cases c61 : 2 ≤ (((x10_35.extract 0 ((x10_35.size : Int) : Int).toNat) ++ (⟨#[48, 48]⟩ : ByteArray)).size : Int)
               ·
                rw [if_pos c61] at H
                have c61b0 := eq_true c61
                have c61b1 : decide (2 ≤ (((x10_35.extract 0 ((x10_35.size : Int) : Int).toNat) ++ (⟨#[48, 48]⟩ : ByteArray)).size : Int)) = true := decide_eq_true c61
                replace H := Option.bind_eq_some_iff.mp H
                obtain ⟨t271, A620, H⟩ := H
                try dsimp -simprocs only at H
                have A62 := Aside0.mk A620
                clear A620
                have c63b0 := eq_true (of_decide_eq_true (by first | (with_reducible assumption) | assumption) : 0 ≤ (x10_35.size : Int))
                have c64b0 := eq_true (of_decide_eq_true (by first | (with_reducible assumption) | assumption) : (x10_35.size : Int) ≤ (x10_35.size : Int))
                replace H := Option.bind_eq_some_iff.mp H
                obtain ⟨t272, A650, H⟩ := H
                try dsimp -simprocs only at H
                have A65 := Aside0.mk A650
                clear A650
                simp only [Option.some.injEq, Prod.mk.injEq] at H
                obtain ⟨rfl, rfl, rfl, rfl, rfl, rfl, rfl, rfl, rfl⟩ := H
                have hnb66 := NB268_262.out
                have hnc66 := NB262_268.out
                obtain ⟨hcz67_0, hcz67_1, hcz67_2, hcz67_3, hcz67_4, hcz67_5, hcz67_6, hcz67_7, hfz67_0, hfz67_1, hfz67_2, hfz67_3, hfz67_4, hfz67_5, hfz67_6, hfz67_7⟩ := cl8 BK268.out
                simp only [show x10_35.extract 0 ((x10_35.size : Int) : Int).toNat = x10_35 by simp, show x10_35.extract ((x10_35.size : Int) : Int).toNat x10_35.size = ByteArray.empty by simp, show wrap64 ((x10_35.size : Int) - (x10_35.size : Int)) = 0 by unfold wrap64; omega] at *
                go_wp2_with (first | ((with_reducible refine gate_dst (N := 89) rfl ?_); refine load_store_ (w0 := w) 89 gb268 gb262 #[.bool ((bt t266 0) == 49), .bool ((bt t265 0) == 49), .int .i64 t267, .int .i64 x269003_16, .int .i64 (x10_35.size : Int), .int .i64 (wrap64 (t271)), .int .i64 0, .int .u64 t272] #[.bool false, .bool false, .int .i64 0, .int .i64 0, .int .i64 0, .int .i64 0, .int .i64 0, .int .u64 0] 84 _ (by repeat (first | (with_reducible refine bN ?_ _) | (with_reducible refine bD ?_) | (with_reducible refine blk_drewN ?_ _) | (with_reducible refine blk_drew ?_) | (with_reducible apply blk_set) | (with_reducible exact BK268.out))) (by repeat (first | (with_reducible refine bN ?_ _) | (with_reducible refine bD ?_) | (with_reducible refine blk_drewN ?_ _) | (with_reducible refine blk_drew ?_) | (with_reducible refine blk_far ?_ NB262_268.out _) | (with_reducible exact BK262.out))) (bR3 HB.out) GE262.out Try.underlying84 (by kernel_rfl) ?_; intro wz kz_ HZ_) | ((with_reducible refine gX_ 40 74 rfl rfl ?_); refine goesY_ (some 74) Try.func40 #[.string ((x10_35 ++ (⟨#[48, 48]⟩ : ByteArray)).extract 0 2)] ?_; (with_reducible refine (vernierref01_Number.calls kj35 ((x10_35 ++ (⟨#[48, 48]⟩ : ByteArray)).extract 0 2) t271 _ A62.out).mono ?_); rintro e w' ⟨rfl, ⟨nd, rfl⟩⟩; refine ⟨_, rfl, ?_⟩) | ((with_reducible refine gX_ 40 87 rfl rfl ?_); refine goesY_ (some 87) Try.func40 #[.string ByteArray.empty] ?_; (with_reducible refine (vernierref01_Number.calls kj35 ByteArray.empty t272 _ A65.out).mono ?_); rintro e w' ⟨rfl, ⟨nd, rfl⟩⟩; refine ⟨_, rfl, ?_⟩; obtain ⟨hcz68_0, hcz68_1, hcz68_2, hcz68_3, hcz68_4, hcz68_5, hcz68_6, hcz68_7, hfz68_0, hfz68_1, hfz68_2, hfz68_3, hfz68_4, hfz68_5, hfz68_6, hfz68_7⟩ := cl8 BK262.out))
                refine bodyPost_ret (results_ct rfl _ _ gb262 84 #[.bool ((bt t266 0) == 49), .bool ((bt t265 0) == 49), .int .i64 t267, .int .i64 x269003_16, .int .i64 (x10_35.size : Int), .int .i64 (wrap64 (t271)), .int .i64 0, .int .u64 t272] (0, 0) _ rfl kz_ Try.underlying84 rfl (by kernel_rfl)) rfl ?_
                exact ⟨by first | rfl | (simp [errW_none, errW_some] <;> (unfold wrap64; omega)) | (simp [errW_none, errW_some] <;> rfl) | (simp [*, errW_none, errW_some] <;> rfl), HZ_⟩
               ·
                rw [if_neg c61] at H
                exact absurd H (by simp)
              ·
               rw [if_neg c60] at H
               exact absurd H (by simp)
             ·
              rw [if_neg c59] at H
              exact absurd H (by simp)
            ·
             rw [if_neg c58] at H
             exact absurd H (by simp)
           ·
            rw [if_neg c57] at H
            exact absurd H (by simp)
     ·
      rw [if_neg c14] at H
      exact absurd H (by simp)
    ·
     rw [if_neg c12] at H
     exact absurd H (by simp)
mutual
def vernierref06_Decodes.j0 : Nat → Int → Int → Int → Int → Bool → Option (Int × Bool × Int × Int × Int)
 | 0, _, _, _, _, _ => none
 | k + 1, x0, x1, x6, x7, x23 => if x23 = true then (some (x6, false, 0, 0, x7)) else ((vernierref06_Split.f k x0 x1).bind fun bt276 => ((vernierref01_Text.f k bt276.2.2.2.2.2.2.2.1 bt276.2.2.2.2.2.2.1).bind fun t287 => (if 1 + t287.size ≤ 9223372036854775807 then (vernierref06_Decodes.l0 k ((⟨#[49]⟩ : ByteArray) ++ t287) x6 bt276.1 (wrap64 ((wrap64 (4 * bt276.2.2.2.1)) + bt276.2.2.2.2.2.1)) 0) else (none))))
def vernierref06_Decodes.l0 : Nat → ByteArray → Int → Bool → Int → Int → Option (Int × Bool × Int × Int × Int)
 | 0, _, _, _, _, _ => none
 | k + 1, x11, x287000, x287001, x287002, x287003 => if (x11.size : Int) < 64 then (if x11.size + 1 ≤ 9223372036854775807 then (vernierref06_Decodes.l0 k (x11 ++ (⟨#[48]⟩ : ByteArray)) x287000 x287001 x287002 x287003) else (none)) else ((vernierref01_Number.f k x11).bind fun t288 => (some (x287000, x287001, x287002, t288, 0)))
end
def vernierref06_Decodes.f (k : Nat) (a0 : Int) (a1 : Int) : Option (Int × Bool × Int × Int × Int) := (vernierref05_Kind.f k a0 a1).bind fun bt274 => (if bt274.2 = 0 then (vernierref06_Decodes.j0 k a0 a1 bt274.1 bt274.2 (bt274.1 != 1)) else (vernierref06_Decodes.j0 k a0 a1 bt274.1 bt274.2 true))
set_option maxHeartbeats 8000000 in
set_option maxRecDepth 100000 in
theorem vernierref06_Decodes.calls (k : Nat) (a0 : Int) (a1 : Int) (r1 : Int) (r2 : Bool) (r3 : Int) (r4 : Int) (r5 : Int) (w : World) (h : vernierref06_Decodes.f k a0 a1 = some (r1, r2, r3, r4, r5)) :
  Calls Try.prog 16 #[.int .i64 a0, .int .u64 a1] w fun e w' => e = .returned (.tuple #[.agg #[.int .i64 r1, .bool r2, .int .i64 r3, .int .u64 r4], .int .i64 r5]) ∧ Below w.heap.size w w' := by
 have hu35 := Try.underlying35
 have hu84 := Try.underlying84
 have HB := Aside0.mk (Below.refl w.heap.size w)
 have H : ((vernierref05_Kind.f k a0 a1).bind fun bt274 => (if bt274.2 = 0 then (vernierref06_Decodes.j0 k a0 a1 bt274.1 bt274.2 (bt274.1 != 1)) else (vernierref06_Decodes.j0 k a0 a1 bt274.1 bt274.2 true))) = some (r1, r2, r3, r4, r5) := h
 clear h
 replace H := Option.bind_eq_some_iff.mp H
 obtain ⟨⟨t274, t275⟩, A30, H⟩ := H
 try dsimp -simprocs only at H
 have A3 := Aside0.mk A30
 clear A30
 have HC4 := Aside0.mk H
 clear H
 go_enter Try.func16, Try.ntmps16
 go_upto_region 2 with (first | ((with_reducible refine gD (N := 4) rfl ?_); refine bE3 4 #[.int .i64 0, .bool false, .int .i64 0, .int .u64 0] 35 ?hr ?_; (case hr => first | (go_simp; done) | (go_simp; rfl)); intro gb273 hg w5 hbox hb; have BK273 := Aside0.mk (hbox); have GW273 := Aside0.mk ((bZ3 hg HB.out)); have GE273 := Aside0.mk ((bZ3 hg HB.out)); replace HB := Aside0.mk (bS3 HB.out hb); clear hb hbox hg) | ((with_reducible refine gX_ 37 15 rfl rfl ?_); refine goesY_ (some 15) Try.func37 #[.int .i64 a0, .int .u64 a1] ?_; (with_reducible refine (vernierref05_Kind.calls k a0 a1 t274 t275 _ A3.out).mono ?_); rintro e w6 ⟨rfl, hb⟩; refine ⟨_, rfl, ?_⟩; replace BK273 := Aside0.mk (bB3 BK273.out hb); replace HB := Aside0.mk (bS3 HB.out hb); (try clear hb); (try clear hk)))
 (try simp only [Act.put, lS_, lZ_, lC_])
 go_cut [23] (fun v23 wc => ∃ (kq : Nat) (x23_3 : Bool), v23 = .bool x23_3 ∧ Aside0 (vernierref06_Decodes.j0 kq a0 a1 t274 t275 x23_3 = some (r1, r2, r3, r4, r5)) ∧ Aside0 (kq ≤ k) ∧ Aside0 (wc.heap[gb273]? = some (.cells #[.int .i64 0, .bool false, .int .i64 0, .int .u64 0] 35 (0, 0))) ∧ Aside0 (Below w.heap.size w wc))
 case first =>
  have H := HC4.out
  clear HC4
  by_cases c7 : t275 = 0
  ·
   rw [if_pos c7] at H
   have c7b0 : (t275 == 0) = true := beq_iff_eq.mpr c7
   have c7b1 : (t275 != 0) = false := bne_eq_false_iff_eq.mpr c7
   clear c7
   (first | rw [c7b0] | (simp only [i64_w, i32_w]; rw [c7b0]) | skip)
   have H' := Aside0.mk H
   clear H
   go_wp2
   go_meet
   case rel => exact ⟨_, ((t274 != 1)), (by first | rfl | (simp; done) | (simp [*]; done)), H', ⟨by first | omega | exact Nat.le_refl _⟩, ⟨bK3 BK273.out⟩, ⟨bR3 HB.out⟩⟩
  ·
   rw [if_neg c7] at H
   have c7b0 : (t275 == 0) = false := beq_eq_false_iff_ne.mpr c7
   have c7b1 : (t275 != 0) = true := bne_iff_ne.mpr c7
   (first | rw [c7b0] | (simp only [i64_w, i32_w]; rw [c7b0]) | skip)
   have H' := Aside0.mk H
   clear H
   go_wp2
   go_meet
   case rel => exact ⟨_, (true), (by first | rfl | (simp; done) | (simp [*]; done)), H', ⟨by first | omega | exact Nat.le_refl _⟩, ⟨bK3 BK273.out⟩, ⟨bR3 HB.out⟩⟩
 case rest =>
  clear HC4
  try clear c1
  try clear p2
  try clear c3
  try clear c7
  try clear c7b0
  try clear c7b1
  obtain ⟨kq, x23_3, rfl, HA, HJ3, BK273, HB⟩ := hcut
  cases kq with
  | zero => exact absurd HA.out (by simp [vernierref06_Decodes.j0])
  | succ kj3 =>
   have H := HA.out
   clear HA
   simp only [vernierref06_Decodes.j0] at H
   by_cases c8 : x23_3 = true
   ·
    subst c8
    rw [if_pos rfl] at H
    simp only [Option.some.injEq, Prod.mk.injEq] at H
    obtain ⟨rfl, rfl, rfl, rfl, rfl⟩ := H
    obtain ⟨hcz9_0, hcz9_1, hcz9_2, hcz9_3, hfz9_0, hfz9_1, hfz9_2, hfz9_3⟩ := cl4 BK273.out
    go_wp2
    refine bodyPost_ret (results_ct rfl _ _ gb273 35 #[.int .i64 t274, .bool false, .int .i64 0, .int .u64 0] (0, 0) _ rfl (bQ3 BK273.out) Try.underlying35 rfl (by kernel_rfl)) rfl ?_
    exact ⟨eR3, bR3 HB.out⟩
   ·
    replace c8 := Bool.eq_false_iff.mpr c8
    subst c8
    rw [if_neg (show ¬ (false = true) by decide)] at H
    replace H := Option.bind_eq_some_iff.mp H
    obtain ⟨⟨t276, t277, t278, t279, t280, t281, t282, t283, t284⟩, A100, H⟩ := H
    try dsimp -simprocs only at H
    have A10 := Aside0.mk A100
    clear A100
    replace H := Option.bind_eq_some_iff.mp H
    obtain ⟨t287, A110, H⟩ := H
    try dsimp -simprocs only at H
    have A11 := Aside0.mk A110
    clear A110
    by_cases c12 : 1 + t287.size ≤ 9223372036854775807
    ·
     rw [if_pos c12] at H
     have c12b0 := eq_true c12
     have c12b1 : decide (1 + t287.size ≤ 9223372036854775807) = true := decide_eq_true c12
     try have c12b2 : (9223372036854775807 < 1 + t287.size) = False := eq_false (Nat.not_lt.2 c12)
     have H' := Aside0.mk H
     clear H
     go_wp2_with (first | ((with_reducible refine gX_ 38 30 rfl rfl ?_); refine goesY_ (some 30) Try.func38 #[.int .i64 a0, .int .u64 a1] ?_; (with_reducible refine (vernierref06_Split.calls kj3 a0 a1 t276 t277 t278 t279 t280 t281 t282 t283 t284 _ A10.out).mono ?_); rintro e w13 ⟨rfl, hb⟩; refine ⟨_, rfl, ?_⟩; replace BK273 := Aside0.mk (bB3 BK273.out hb); replace HB := Aside0.mk (bS3 HB.out hb); (try clear hb); (try clear hk)) | ((with_reducible refine gD (N := 8) rfl ?_); refine bE3 8 #[.bool false, .bool false, .int .i64 0, .int .i64 0, .int .i64 0, .int .i64 0, .int .i64 0, .int .u64 0] 84 ?hr ?_; (case hr => first | (go_simp; done) | (go_simp; rfl)); intro gb285 hg w14 hbox hb; have BK285 := Aside0.mk (hbox); have GW285 := Aside0.mk ((bZ3 hg HB.out)); have GE285 := Aside0.mk ((bZ3 hg HB.out)); replace HB := Aside0.mk (bS3 HB.out hb); have NB273_285 := Aside0.mk ((bL3 hg BK273.out)); have NB285_273 := Aside0.mk ((bG3 hg BK273.out)); replace BK273 := Aside0.mk (bB3 BK273.out hb); clear hb hbox hg; have hnb15 := NB285_273.out; have hnc15 := NB273_285.out; obtain ⟨hcz16_0, hcz16_1, hcz16_2, hcz16_3, hcz16_4, hcz16_5, hcz16_6, hcz16_7, hfz16_0, hfz16_1, hfz16_2, hfz16_3, hfz16_4, hfz16_5, hfz16_6, hfz16_7⟩ := cl8 BK285.out) | ((with_reducible refine gD (N := 10) rfl ?_); refine bE3 10 #[.int .i64 0, .bool false, .int .i64 0, .int .u64 0] 35 ?hr ?_; (case hr => first | (go_simp; done) | (go_simp; rfl)); intro gb286 hg w17 hbox hb; have BK286 := Aside0.mk (hbox); have GW286 := Aside0.mk ((bZ3 hg HB.out)); have GE286 := Aside0.mk ((bZ3 hg HB.out)); replace HB := Aside0.mk (bS3 HB.out hb); have NB273_286 := Aside0.mk ((by rw [hg]; exact Nat.ne_of_lt (bL (g := gb273) (o := .cells #[.int .i64 0, .bool false, .int .i64 0, .int .u64 0] 35 (0, 0)) (bQ3 BK273.out)) : gb273 ≠ gb286)); have NB286_273 := Aside0.mk ((by rw [hg]; exact Nat.ne_of_gt (bL (g := gb273) (o := .cells #[.int .i64 0, .bool false, .int .i64 0, .int .u64 0] 35 (0, 0)) (bQ3 BK273.out)) : gb286 ≠ gb273)); replace BK273 := Aside0.mk (bB (g := gb273) (o := .cells #[.int .i64 0, .bool false, .int .i64 0, .int .u64 0] 35 (0, 0)) (bQ3 BK273.out) hb); have NB285_286 := Aside0.mk ((by rw [hg]; exact Nat.ne_of_lt (bL (g := gb285) (o := .cells #[.bool t276, .bool t277, .int .i64 t278, .int .i64 t279, .int .i64 t280, .int .i64 t281, .int .i64 t282, .int .u64 t283] 84 (0, 0)) (bQ3 BK285.out)) : gb285 ≠ gb286)); have NB286_285 := Aside0.mk ((by rw [hg]; exact Nat.ne_of_gt (bL (g := gb285) (o := .cells #[.bool t276, .bool t277, .int .i64 t278, .int .i64 t279, .int .i64 t280, .int .i64 t281, .int .i64 t282, .int .u64 t283] 84 (0, 0)) (bQ3 BK285.out)) : gb286 ≠ gb285)); replace BK285 := Aside0.mk (bB (g := gb285) (o := .cells #[.bool t276, .bool t277, .int .i64 t278, .int .i64 t279, .int .i64 t280, .int .i64 t281, .int .i64 t282, .int .u64 t283] 84 (0, 0)) (bQ3 BK285.out) hb); clear hb hbox hg; have hnb18 := NB286_273.out; have hnc18 := NB273_286.out; have hnb19 := NB286_285.out; have hnc19 := NB285_286.out; obtain ⟨hcz20_0, hcz20_1, hcz20_2, hcz20_3, hfz20_0, hfz20_1, hfz20_2, hfz20_3⟩ := cl4 BK286.out; obtain ⟨hcz21_0, hcz21_1, hcz21_2, hcz21_3, hcz21_4, hcz21_5, hcz21_6, hcz21_7, hfz21_0, hfz21_1, hfz21_2, hfz21_3, hfz21_4, hfz21_5, hfz21_6, hfz21_7⟩ := cl8 BK285.out) | ((with_reducible refine gX_ 39 47 rfl rfl ?_); refine goesY_ (some 47) Try.func39 #[.int .u64 t283, .int .i64 t282] ?_; (with_reducible refine (vernierref01_Text.calls kj3 t283 t282 t287 _ A11.out).mono ?_); rintro e w22 ⟨rfl, hb⟩; refine ⟨_, rfl, ?_⟩; replace BK273 := Aside0.mk (bB (g := gb273) (o := .cells #[.int .i64 0, .bool false, .int .i64 0, .int .u64 0] 35 (0, 0)) (bQ3 BK273.out) hb); replace BK285 := Aside0.mk (bB (g := gb285) (o := .cells #[.bool t276, .bool t277, .int .i64 t278, .int .i64 t279, .int .i64 t280, .int .i64 t281, .int .i64 t282, .int .u64 t283] 84 (0, 0)) (bQ3 BK285.out) hb); replace BK286 := Aside0.mk (bB (g := gb286) (o := .cells #[.int .i64 t274, .bool t276, .int .i64 (wrap64 ((wrap64 (4 * t279)) + t281)), .int .u64 0] 35 (0, 0)) (bQ3 BK286.out) hb); replace HB := Aside0.mk (bS3 HB.out hb); (try clear hb); (try clear hk)))
     go_loopg [11] kj3 (fun kq v11 w' => ∃ (x11_2 : ByteArray), v11 = .string x11_2 ∧ Aside0 (vernierref06_Decodes.l0 kq x11_2 t274 t276 (wrap64 ((wrap64 (4 * t279)) + t281)) 0 = some (r1, r2, r3, r4, r5)) ∧ Aside0 (kq ≤ kj3) ∧ Aside0 (w'.heap[gb273]? = some (.cells #[.int .i64 0, .bool false, .int .i64 0, .int .u64 0] 35 (0, 0))) ∧ Aside0 (w'.heap[gb285]? = some (.cells #[.bool t276, .bool t277, .int .i64 t278, .int .i64 t279, .int .i64 t280, .int .i64 t281, .int .i64 t282, .int .u64 t283] 84 (0, 0))) ∧ Aside0 (w'.heap[gb286]? = some (.cells #[.int .i64 t274, .bool t276, .int .i64 (wrap64 ((wrap64 (4 * t279)) + t281)), .int .u64 0] 35 (0, 0))) ∧ Aside0 (Below w.heap.size w w'))
     case atStart => exact ⟨((⟨#[49]⟩ : ByteArray) ++ t287), (by first | rfl | (simp; done) | (simp [*]; done)), H', ⟨Nat.le_refl _⟩, ⟨bK3 BK273.out⟩, ⟨bK3 BK285.out⟩, ⟨bK3 BK286.out⟩, ⟨bR3 HB.out⟩⟩
     case round =>
      clear H'
      try clear c1
      try clear p2
      try clear c3
      try clear p6
      try clear c7
      try clear c7b0
      try clear c7b1
      try clear c8
      try clear c12
      try clear c12b0
      try clear c12b1
      try clear c12b2
      try clear c15
      try clear c16
      try clear c18
      try clear c19
      try clear hcz16_0 hcz16_1 hcz16_2 hcz16_3 hcz16_4 hcz16_5 hcz16_6 hcz16_7
      try clear hcz20_0 hcz20_1 hcz20_2 hcz20_3
      try clear hcz21_0 hcz21_1 hcz21_2 hcz21_3 hcz21_4 hcz21_5 hcz21_6 hcz21_7
      try clear hcz9_0 hcz9_1 hcz9_2 hcz9_3
      try clear hfz16_0 hfz16_1 hfz16_2 hfz16_3 hfz16_4 hfz16_5 hfz16_6 hfz16_7
      try clear hfz20_0 hfz20_1 hfz20_2 hfz20_3
      try clear hfz21_0 hfz21_1 hfz21_2 hfz21_3 hfz21_4 hfz21_5 hfz21_6 hfz21_7
      try clear hfz9_0 hfz9_1 hfz9_2 hfz9_3
      try clear p2
      obtain ⟨x11_2, rfl, HA, HK2, BK273, BK285, BK286, HB⟩ := hrel
      cases gk with
      | zero => exact absurd HA.out (by simp [vernierref06_Decodes.l0])
      | succ k2 =>
       have H := HA.out
       clear HA
       simp only [vernierref06_Decodes.l0] at H
       by_cases c23 : (x11_2.size : Int) < 64
       ·
        rw [if_pos c23] at H
        have c23b0 : decide ((x11_2.size : Int) < 64) = true := decide_eq_true c23
        have c23b1 : decide (x11_2.size < 64) = true := decide_eq_true (by omega)
        clear c23
        by_cases c24 : x11_2.size + 1 ≤ 9223372036854775807
        ·
         rw [if_pos c24] at H
         have c24b0 := eq_true c24
         have c24b1 : decide (x11_2.size + 1 ≤ 9223372036854775807) = true := decide_eq_true c24
         try have c24b2 : (9223372036854775807 < x11_2.size + 1) = False := eq_false (Nat.not_lt.2 c24)
         have H' := Aside0.mk H
         clear H
         go_wp2
         go_roundg k2
         case measure => have := HJ3.out; have := HK2.out; omega
         case rel => exact ⟨(x11_2 ++ (⟨#[48]⟩ : ByteArray)), (by first | rfl | (simp; done) | (simp [*]; done)), H', ⟨by have := HJ3.out; have := HK2.out; omega⟩, ⟨bK3 BK273.out⟩, ⟨bK3 BK285.out⟩, ⟨bK3 BK286.out⟩, ⟨bR3 HB.out⟩⟩
        ·
         rw [if_neg c24] at H
         exact absurd H (by simp)
       ·
        rw [if_neg c23] at H
        have c23b0 : decide ((x11_2.size : Int) < 64) = false := decide_eq_false c23
        have c23b1 : decide (x11_2.size < 64) = false := decide_eq_false (by omega)
        clear c23
        replace H := Option.bind_eq_some_iff.mp H
        obtain ⟨t288, A250, H⟩ := H
        try dsimp -simprocs only at H
        have A25 := Aside0.mk A250
        clear A250
        simp only [Option.some.injEq, Prod.mk.injEq] at H
        obtain ⟨rfl, rfl, rfl, rfl, rfl⟩ := H
        go_wp2_with (first | ((with_reducible refine gX_ 40 55 rfl rfl ?_); refine goesY_ (some 55) Try.func40 #[.string x11_2] ?_; (with_reducible refine (vernierref01_Number.calls k2 x11_2 t288 _ A25.out).mono ?_); rintro e w' ⟨rfl, ⟨nd, rfl⟩⟩; refine ⟨_, rfl, ?_⟩; (try (rw [drewN_self wr]; generalize hq_ : World.drewN wr _ = wr; have n0_ : Aside0 (wr.heap[gb273]? = some (.cells #[.int .i64 0, .bool false, .int .i64 0, .int .u64 0] 35 (0, 0))) := ⟨by rw [← hq_]; exact (bK3 BK273.out)⟩; have n1_ : Aside0 (wr.heap[gb285]? = some (.cells #[.bool t276, .bool t277, .int .i64 t278, .int .i64 t279, .int .i64 t280, .int .i64 t281, .int .i64 t282, .int .u64 t283] 84 (0, 0))) := ⟨by rw [← hq_]; exact (bK3 BK285.out)⟩; have n2_ : Aside0 (wr.heap[gb286]? = some (.cells #[.int .i64 t274, .bool t276, .int .i64 (wrap64 ((wrap64 (4 * t279)) + t281)), .int .u64 0] 35 (0, 0))) := ⟨by rw [← hq_]; exact (bK3 BK286.out)⟩; have n3_ : Aside0 (Below w.heap.size w wr) := ⟨by rw [← hq_]; exact (bR3 HB.out)⟩; clear BK273 BK285 BK286 HB hq_; have BK273 := n0_; have BK285 := n1_; have BK286 := n2_; have HB := n3_; clear n0_ n1_ n2_ n3_)); have hnb26 := NB286_273.out; have hnc26 := NB273_286.out; have hnb27 := NB286_285.out; have hnc27 := NB285_286.out; obtain ⟨hcz28_0, hcz28_1, hcz28_2, hcz28_3, hfz28_0, hfz28_1, hfz28_2, hfz28_3⟩ := cl4 BK286.out; have hnb29 := NB273_285.out; have hnc29 := NB285_273.out; obtain ⟨hcz30_0, hcz30_1, hcz30_2, hcz30_3, hfz30_0, hfz30_1, hfz30_2, hfz30_3⟩ := cl4 BK273.out))
        refine bodyPost_ret (results_ct rfl _ _ gb273 35 #[.int .i64 t274, .bool t276, .int .i64 (wrap64 ((wrap64 (4 * t279)) + t281)), .int .u64 t288] (0, 0) _ rfl (bQ3 BK273.out) Try.underlying35 rfl (by kernel_rfl)) rfl ?_
        exact ⟨eR3, bR3 HB.out⟩
    ·
     rw [if_neg c12] at H
     exact absurd H (by simp)
def vernierref06_Decode.f (k : Nat) (a0 : Int) (a1 : Int) : Option (Int × Bool × Int × Int) := (vernierref06_Decodes.f k a0 a1).bind fun bt290 => (some (bt290.1, bt290.2.1, bt290.2.2.1, bt290.2.2.2.1))
set_option maxHeartbeats 8000000 in
set_option maxRecDepth 100000 in
theorem vernierref06_Decode.calls (k : Nat) (a0 : Int) (a1 : Int) (r1 : Int) (r2 : Bool) (r3 : Int) (r4 : Int) (w : World) (h : vernierref06_Decode.f k a0 a1 = some (r1, r2, r3, r4)) :
  Calls Try.prog 7 #[.int .i64 a0, .int .u64 a1] w fun e w' => e = .returned (.agg #[.int .i64 r1, .bool r2, .int .i64 r3, .int .u64 r4]) ∧ Below w.heap.size w w' := by
 have hu35 := Try.underlying35
 have HB := Aside0.mk (Below.refl w.heap.size w)
 have H : ((vernierref06_Decodes.f k a0 a1).bind fun bt290 => (some (bt290.1, bt290.2.1, bt290.2.2.1, bt290.2.2.2.1))) = some (r1, r2, r3, r4) := h
 clear h
 replace H := Option.bind_eq_some_iff.mp H
 obtain ⟨⟨t290, t291, t292, t293, t294⟩, A30, H⟩ := H
 try dsimp -simprocs only at H
 have A3 := Aside0.mk A30
 clear A30
 simp only [Option.some.injEq, Prod.mk.injEq] at H
 obtain ⟨rfl, rfl, rfl, rfl⟩ := H
 go_enter Try.func7, Try.ntmps7
 go_wp2_with (first | ((with_reducible refine gD (N := 4) rfl ?_); refine bE3 4 #[.int .i64 0, .bool false, .int .i64 0, .int .u64 0] 35 ?hr ?_; (case hr => first | (go_simp; done) | (go_simp; rfl)); intro gb289 hg w4 hbox hb; have BK289 := Aside0.mk (hbox); have GW289 := Aside0.mk ((bZ3 hg HB.out)); have GE289 := Aside0.mk ((bZ3 hg HB.out)); replace HB := Aside0.mk (bS3 HB.out hb); clear hb hbox hg) | ((with_reducible refine gX_ 16 10 rfl rfl ?_); refine goesY_ (some 10) Try.func16 #[.int .i64 a0, .int .u64 a1] ?_; (with_reducible refine (vernierref06_Decodes.calls k a0 a1 t290 t291 t292 t293 t294 _ A3.out).mono ?_); rintro e w5 ⟨rfl, hb⟩; refine ⟨_, rfl, ?_⟩; replace BK289 := Aside0.mk (bB3 BK289.out hb); replace HB := Aside0.mk (bS3 HB.out hb); (try clear hb); (try clear hk)) | ((with_reducible refine gD (N := 5) rfl ?_); refine bE3 5 #[.int .i64 0, .bool false, .int .i64 0, .int .u64 0] 35 ?hr ?_; (case hr => first | (go_simp; done) | (go_simp; rfl)); intro gb295 hg w6 hbox hb; have BK295 := Aside0.mk (hbox); have GW295 := Aside0.mk ((bZ3 hg HB.out)); have GE295 := Aside0.mk ((bZ3 hg HB.out)); replace HB := Aside0.mk (bS3 HB.out hb); have NB289_295 := Aside0.mk ((bL3 hg BK289.out)); have NB295_289 := Aside0.mk ((bG3 hg BK289.out)); replace BK289 := Aside0.mk (bB3 BK289.out hb); clear hb hbox hg; have hnb7 := NB295_289.out; have hnc7 := NB289_295.out; obtain ⟨hcz8_0, hcz8_1, hcz8_2, hcz8_3, hfz8_0, hfz8_1, hfz8_2, hfz8_3⟩ := cl4 BK295.out; obtain ⟨hcz9_0, hcz9_1, hcz9_2, hcz9_3, hfz9_0, hfz9_1, hfz9_2, hfz9_3⟩ := cl4 BK289.out))
 refine bodyPost_ret (results_cell_row rfl _ _ gb289 35 #[.int .i64 t290, .bool t291, .int .i64 t292, .int .u64 t293] (0, 0) _ rfl (bQ3 BK289.out) Try.underlying35 rfl (by kernel_rfl)) rfl ?_
 exact ⟨eR3, bR3 HB.out⟩
def vernierref06_Fold.f (k : Nat) (a0 : Int) (a1 : Int) : Option (Int) := (vernierref05_Fold.f k a0 a1).bind fun bt400 => (some bt400.1)
set_option maxHeartbeats 8000000 in
set_option maxRecDepth 100000 in
theorem vernierref06_Fold.calls (k : Nat) (a0 : Int) (a1 : Int) (r : Int) (w : World) (h : vernierref06_Fold.f k a0 a1 = some r) :
  Calls Try.prog 44 #[.int .i64 a0, .int .u64 a1] w fun e w' => e = .returned (.int .u64 r) ∧ Below w.heap.size w w' := by
 have HB := Aside0.mk (Below.refl w.heap.size w)
 have H : ((vernierref05_Fold.f k a0 a1).bind fun bt400 => (some bt400.1)) = some r := h
 clear h
 replace H := Option.bind_eq_some_iff.mp H
 obtain ⟨⟨t400, t401⟩, A30, H⟩ := H
 try dsimp -simprocs only at H
 have A3 := Aside0.mk A30
 clear A30
 obtain rfl := Option.some.inj H
 go_enter Try.func44, Try.ntmps44
 go_wp2_with (first | ((with_reducible refine gX_ 55 10 rfl rfl ?_); refine goesY_ (some 10) Try.func55 #[.int .i64 a0, .int .u64 a1] ?_; (with_reducible refine (vernierref05_Fold.calls k a0 a1 t400 t401 _ A3.out).mono ?_); rintro e w4 ⟨rfl, hb⟩; refine ⟨_, rfl, ?_⟩; replace HB := Aside0.mk (bS3 HB.out hb); (try clear hb); (try clear hk)))
 go_ret
 exact ⟨eR3, bR3 HB.out⟩
def vernierref06_Neg.f (k : Nat) (a0 : Int) (a1 : Int) : Option (Int) := (vernierref06_Fold.f k a0 (IntKind.u64.wrap (-a1))).bind fun t402 => (some t402)
set_option maxHeartbeats 8000000 in
set_option maxRecDepth 100000 in
theorem vernierref06_Neg.calls (k : Nat) (a0 : Int) (a1 : Int) (r : Int) (w : World) (h : vernierref06_Neg.f k a0 a1 = some r) :
  Calls Try.prog 24 #[.int .i64 a0, .int .u64 a1] w fun e w' => e = .returned (.int .u64 r) ∧ Below w.heap.size w w' := by
 have HB := Aside0.mk (Below.refl w.heap.size w)
 have H : ((vernierref06_Fold.f k a0 (IntKind.u64.wrap (-a1))).bind fun t402 => (some t402)) = some r := h
 clear h
 replace H := Option.bind_eq_some_iff.mp H
 obtain ⟨t402, A30, H⟩ := H
 try dsimp -simprocs only at H
 have A3 := Aside0.mk A30
 clear A30
 obtain rfl := Option.some.inj H
 go_enter Try.func24, Try.ntmps24
 go_wp2_with (first | ((with_reducible refine gX_ 44 8 rfl rfl ?_); refine goesY_ (some 8) Try.func44 #[.int .i64 a0, .int .u64 (IntKind.u64.wrap (-a1))] ?_; (with_reducible refine (vernierref06_Fold.calls k a0 (IntKind.u64.wrap (-a1)) t402 _ A3.out).mono ?_); rintro e w4 ⟨rfl, hb⟩; refine ⟨_, rfl, ?_⟩; replace HB := Aside0.mk (bS3 HB.out hb); (try clear hb); (try clear hk)))
 go_ret
 exact ⟨eR3, bR3 HB.out⟩
end Go.Proofs.Ytjlaijaadclghaa.F
