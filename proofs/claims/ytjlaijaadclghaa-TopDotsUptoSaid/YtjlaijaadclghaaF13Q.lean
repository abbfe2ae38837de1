/- Printed functions and their walks; no further conditions. -/
import Derived.Test.YtjlaijaadclghaaF0Q
import Derived.Test.YtjlaijaadclghaaF14Q
import Derived.Test.YtjlaijaadclghaaF16Q
namespace Go.Proofs.Ytjlaijaadclghaa.F
open RowKit YtjlaijaadclghaaW PrintWords PrintLast PrintMore
attribute [local go_sem high] xor_u64 xor_u32
attribute [local go_sem] max2_int min2_int max_two min_two max_three min_three max_four min_four
set_option linter.all false
mutual
def verniertop_tie.j1 : Nat → ByteArray → Int → Option (Bool × List Int × Int)
 | 0, _, _ => none
 | k + 1, x5, x6 => if 0 < (x5.size : Int) then (if (bt x5 0) = 49 then (verniertop_tie.j2 k x5 x6 (wrap64 (x6 - 1))) else (verniertop_tie.j2 k x5 x6 (wrap64 (-x6)))) else (none)
def verniertop_tie.j2 : Nat → ByteArray → Int → Int → Option (Bool × List Int × Int)
 | 0, _, _, _ => none
 | k + 1, x5, x6, x7 => if x6 < (x5.size : Int) then (if 0 ≤ (wrap64 (x6 + 1)) then (if (wrap64 (x6 + 1)) ≤ (x5.size : Int) then (verniertop_tie.j3 k x7 (x5.extract ((wrap64 (x6 + 1)) : Int).toNat x5.size)) else (none)) else (none)) else (verniertop_tie.j3 k x7 (⟨#[]⟩ : ByteArray))
def verniertop_tie.j3 : Nat → Int → ByteArray → Option (Bool × List Int × Int)
 | 0, _, _ => none
 | k + 1, x7, x8 => if x8.size + 2 ≤ 9223372036854775807 then (if 0 ≤ 2 then (if 2 ≤ ((x8 ++ (⟨#[48, 48]⟩ : ByteArray)).size : Int) then ((vernierref01_Number.f k ((x8 ++ (⟨#[48, 48]⟩ : ByteArray)).extract 0 2)).bind fun t415 => (verniertop_tie.l1 k x8 (wrap64 ((wrap64 (4 * x7)) + (wrap64 (t415)))) (([1] : List Int)) 2)) else (none)) else (none)) else (none)
def verniertop_tie.l1 : Nat → ByteArray → Int → List Int → Int → Option (Bool × List Int × Int)
 | 0, _, _, _, _ => none
 | k + 1, x8, x10, x11, x12 => if x12 < (x8.size : Int) then ((vernierref04_Shl.f k x11 1).bind fun t419 => (if 0 ≤ x12 then (if (bt x8 x12) = 49 then ((vernierref04_Add.f k t419 (([1] : List Int))).bind fun t425 => (verniertop_tie.l1 k x8 (wrap64 (x10 - 1)) t425 (wrap64 (x12 + 1)))) else (verniertop_tie.l1 k x8 (wrap64 (x10 - 1)) t419 (wrap64 (x12 + 1)))) else (none))) else (some (false, x11, x10))
def verniertop_tie.l0 : Nat → ByteArray → Int → Option (Bool × List Int × Int)
 | 0, _, _ => none
 | k + 1, x5, x6 => if x6 < (x5.size : Int) then (if 0 ≤ x6 then (if 0 < (x5.size : Int) then (if (bt x5 x6) = (bt x5 0) then (verniertop_tie.l0 k x5 (wrap64 (x6 + 1))) else (verniertop_tie.j1 k x5 x6)) else (none)) else (none)) else (verniertop_tie.j1 k x5 x6)
end
def verniertop_tie.f (k : Nat) (a0 : Int) (a1 : Int) : Option (Bool × List Int × Int) := (vernierref01_Text.f k a1 (wrap64 (a0 - 1))).bind fun t414 => (if t414.size + 1 ≤ 9223372036854775807 then (verniertop_tie.l0 k (t414 ++ (⟨#[49]⟩ : ByteArray)) 0) else (none))
set_option maxHeartbeats 8000000 in
set_option maxRecDepth 100000 in
theorem verniertop_tie.calls (k : Nat) (a0 : Int) (a1 : Int) (r1 : Bool) (r2 : List Int) (r3 : Int) (w : World) (h : verniertop_tie.f k a0 a1 = some (r1, r2, r3)) :
  Calls Try.prog 26 #[.int .i64 a0, .int .u64 a1] w fun e w' => ∃ v1_ : Value, e = .returned (.agg #[.bool r1, v1_, .int .i64 r3]) ∧ Kd.R (Kd.int .i64) 3 w' w.heap.size (fun _ => True) v1_ r2 ∧ Below w.heap.size w w' := by
 have hu32 := Try.underlying32
 have HB := Aside0.mk (Below.refl w.heap.size w)
 have H : ((vernierref01_Text.f k a1 (wrap64 (a0 - 1))).bind fun t414 => (if t414.size + 1 ≤ 9223372036854775807 then (verniertop_tie.l0 k (t414 ++ (⟨#[49]⟩ : ByteArray)) 0) else (none))) = some (r1, r2, r3) := h
 clear h
 replace H := Option.bind_eq_some_iff.mp H
 obtain ⟨t414, A30, H⟩ := H
 try dsimp -simprocs only at H
 have A3 := Aside0.mk A30
 clear A30
 by_cases c4 : t414.size + 1 ≤ 9223372036854775807
 ·
  rw [if_pos c4] at H
  have c4b0 := eq_true c4
  have c4b1 : decide (t414.size + 1 ≤ 9223372036854775807) = true := decide_eq_true c4
  try have c4b2 : (9223372036854775807 < t414.size + 1) = False := eq_false (Nat.not_lt.2 c4)
  have HC5 := Aside0.mk H
  clear H
  go_enter Try.func26, Try.ntmps26
  go_upto_block 0 with (first | ((with_reducible refine gD (N := 4) rfl ?_); refine bE3 4 #[.bool false, .slice none 0 0, .int .i64 0] 32 ?hr ?_; (case hr => first | (go_simp; done) | (go_simp; rfl)); intro gb413 hg w6 hbox hb; have BK413 := Aside0.mk (hbox); have GW413 := Aside0.mk ((bZ3 hg HB.out)); have GE413 := Aside0.mk ((bZ3 hg HB.out)); replace HB := Aside0.mk (bS3 HB.out hb); clear hb hbox hg) | (go_at_call 39; (with_reducible refine (vernierref01_Text.calls k a1 (wrap64 (a0 - 1)) t414 _ A3.out).mono ?_); rintro e w7 ⟨rfl, hb⟩; replace BK413 := Aside0.mk (bB3 BK413.out hb); replace HB := Aside0.mk (bS3 HB.out hb); (try clear hb); (try clear hk)))
  repeat (go_quiet (first | ((with_reducible refine gD (N := 4) rfl ?_); refine bE3 4 #[.bool false, .slice none 0 0, .int .i64 0] 32 ?hr ?_; (case hr => first | (go_simp; done) | (go_simp; rfl)); intro gb413 hg w6 hbox hb; have BK413 := Aside0.mk (hbox); have GW413 := Aside0.mk ((bZ3 hg HB.out)); have GE413 := Aside0.mk ((bZ3 hg HB.out)); replace HB := Aside0.mk (bS3 HB.out hb); clear hb hbox hg) | (go_at_call 39; (with_reducible refine (vernierref01_Text.calls k a1 (wrap64 (a0 - 1)) t414 _ A3.out).mono ?_); rintro e w7 ⟨rfl, hb⟩; replace BK413 := Aside0.mk (bB3 BK413.out hb); replace HB := Aside0.mk (bS3 HB.out hb); (try clear hb); (try clear hk))); go_upto_block 0 with (first | ((with_reducible refine gD (N := 4) rfl ?_); refine bE3 4 #[.bool false, .slice none 0 0, .int .i64 0] 32 ?hr ?_; (case hr => first | (go_simp; done) | (go_simp; rfl)); intro gb413 hg w6 hbox hb; have BK413 := Aside0.mk (hbox); have GW413 := Aside0.mk ((bZ3 hg HB.out)); have GE413 := Aside0.mk ((bZ3 hg HB.out)); replace HB := Aside0.mk (bS3 HB.out hb); clear hb hbox hg) | (go_at_call 39; (with_reducible refine (vernierref01_Text.calls k a1 (wrap64 (a0 - 1)) t414 _ A3.out).mono ?_); rintro e w7 ⟨rfl, hb⟩; replace BK413 := Aside0.mk (bB3 BK413.out hb); replace HB := Aside0.mk (bS3 HB.out hb); (try clear hb); (try clear hk))))
  generalize hS5 : t414 ++ (⟨#[49]⟩ : ByteArray) = s5 at *
  (try simp only [Act.put, lS_, lZ_, lC_])
  have hz5 : s5.size ≤ 9223372036854775807 := by rw [← hS5, ByteArray.size_append]; exact c4
  have HZ5 := Aside0.mk hz5
  clear hz5 hS5
  go_cut [6] (fun v6 wc => ∃ (kq : Nat) (x6_4 : Int), v6 = .int .i64 x6_4 ∧ Aside0 (verniertop_tie.j1 kq s5 x6_4 = some (r1, r2, r3)) ∧ Aside0 (kq ≤ k) ∧ Aside0 (wc.heap[gb413]? = some (.cells #[.bool false, (.slice none 0 0), .int .i64 0] 32 (0, 0))) ∧ Aside0 (Below w.heap.size w wc))
  case first =>
   have H := HC5.out
   clear HC5
   have H' := Aside0.mk H
   clear H
   go_wp2
   repeat (go_quiet (fail); try go_wp2)
   go_loopg [6] k (fun kq v6 w' => ∃ (x6_1 : Int), v6 = .int .i64 x6_1 ∧ Aside0 (verniertop_tie.l0 kq s5 x6_1 = some (r1, r2, r3)) ∧ Aside0 (kq ≤ k) ∧ Aside0 (w'.heap[gb413]? = some (.cells #[.bool false, (.slice none 0 0), .int .i64 0] 32 (0, 0))) ∧ Aside0 (Below w.heap.size w w'))
   case atStart => exact ⟨(0), (by first | rfl | (simp; done) | (simp [*]; done)), H', ⟨Nat.le_refl _⟩, ⟨bK3 BK413.out⟩, ⟨bR3 HB.out⟩⟩
   case round =>
    clear H'
    try clear c2
    try clear p2
    try clear c4
    try clear c4b0
    try clear c4b1
    try clear c4b2
    try clear p6
    obtain ⟨x6_1, rfl, HA, HK1, BK413, HB⟩ := hrel
    cases gk with
    | zero => exact absurd HA.out (by simp [verniertop_tie.l0])
    | succ k1 =>
     have H := HA.out
     clear HA
     simp only [verniertop_tie.l0] at H
     by_cases c8 : x6_1 < (s5.size : Int)
     ·
      rw [if_pos c8] at H
      have c8b0 : decide (x6_1 < (s5.size : Int)) = true := decide_eq_true c8
      clear c8
      (first | rw [c8b0] | (simp only [i64_w, i32_w]; rw [c8b0]) | skip)
      by_cases c9 : 0 ≤ x6_1
      ·
       rw [if_pos c9] at H
       have c9b0 : decide (0 ≤ x6_1) = true := decide_eq_true c9
       clear c9
       by_cases c11 : 0 < (s5.size : Int)
       ·
        rw [if_pos c11] at H
        have c11b0 : decide (0 < (s5.size : Int)) = true := decide_eq_true c11
        have c11b1 : decide (0 < s5.size) = true := decide_eq_true (by omega)
        clear c11
        by_cases c13 : (bt s5 x6_1) = (bt s5 0)
        ·
         rw [if_pos c13] at H
         have c13b0 : ((bt s5 x6_1) == (bt s5 0)) = true := beq_iff_eq.mpr c13
         have c13b1 : ((bt s5 x6_1) != (bt s5 0)) = false := bne_eq_false_iff_eq.mpr c13
         clear c13
         have H' := Aside0.mk H
         clear H
         have p10 : 0 ≤ (x6_1 : Int) := of_decide_eq_true (by first | (with_reducible assumption) | assumption)
         have q10 : x6_1 < (s5.size : Int) := of_decide_eq_true (by first | (with_reducible assumption) | assumption)
         have hx10 := bt_at s5 x6_1
         replace p10 := eq_true p10
         replace q10 := eq_true q10
         have p12 : 0 ≤ (0 : Int) := (by omega)
         have q12 : 0 < s5.size := (by have : (0 : Int) < (s5.size : Int) := of_decide_eq_true (by first | (with_reducible assumption) | assumption); omega)
         have hx12 : ∀ h : 0 < s5.size, ((s5[0]'h).toNat : Int) = bt s5 0 := bt_at s5 0
         clear p12
         have qi12 : (0 < (s5.size : Int)) = True := eq_true (of_decide_eq_true (by first | (with_reducible assumption) | assumption))
         replace q12 := eq_true q12
         go_wp2
         repeat (go_quiet (fail); try go_wp2)
         go_roundg k1
         case measure => have := HK1.out; omega
         case rel => exact ⟨(wrap64 (x6_1 + 1)), (by first | rfl | (simp; done) | (simp [*]; done)), H', ⟨by have := HK1.out; omega⟩, ⟨bK3 BK413.out⟩, ⟨bR3 HB.out⟩⟩
        ·
         rw [if_neg c13] at H
         have c13b0 : ((bt s5 x6_1) == (bt s5 0)) = false := beq_eq_false_iff_ne.mpr c13
         have c13b1 : ((bt s5 x6_1) != (bt s5 0)) = true := bne_iff_ne.mpr c13
         have H' := Aside0.mk H
         clear H
         have p10 : 0 ≤ (x6_1 : Int) := of_decide_eq_true (by first | (with_reducible assumption) | assumption)
         have q10 : x6_1 < (s5.size : Int) := of_decide_eq_true (by first | (with_reducible assumption) | assumption)
         have hx10 := bt_at s5 x6_1
         replace p10 := eq_true p10
         replace q10 := eq_true q10
         have p12 : 0 ≤ (0 : Int) := (by omega)
         have q12 : 0 < s5.size := (by have : (0 : Int) < (s5.size : Int) := of_decide_eq_true (by first | (with_reducible assumption) | assumption); omega)
         have hx12 : ∀ h : 0 < s5.size, ((s5[0]'h).toNat : Int) = bt s5 0 := bt_at s5 0
         clear p12
         have qi12 : (0 < (s5.size : Int)) = True := eq_true (of_decide_eq_true (by first | (with_reducible assumption) | assumption))
         replace q12 := eq_true q12
         go_wp2
         repeat (go_quiet (fail); try go_wp2)
         go_meet
         case rel => exact ⟨_, (x6_1), (by first | rfl | (simp; done) | (simp [*]; done)), H', ⟨by have := HK1.out; first | omega | exact Nat.le_refl _⟩, ⟨bK3 BK413.out⟩, ⟨bR3 HB.out⟩⟩
       ·
        rw [if_neg c11] at H
        exact absurd H (by simp)
      ·
       rw [if_neg c9] at H
       exact absurd H (by simp)
     ·
      rw [if_neg c8] at H
      have c8b0 : decide (x6_1 < (s5.size : Int)) = false := decide_eq_false c8
      clear c8
      (first | rw [c8b0] | (simp only [i64_w, i32_w]; rw [c8b0]) | skip)
      have H' := Aside0.mk H
      clear H
      go_wp2
      repeat (go_quiet (fail); try go_wp2)
      go_meet
      case rel => exact ⟨_, (x6_1), (by first | rfl | (simp; done) | (simp [*]; done)), H', ⟨by have := HK1.out; first | omega | exact Nat.le_refl _⟩, ⟨bK3 BK413.out⟩, ⟨bR3 HB.out⟩⟩
  case rest =>
   clear HC5
   try clear c1
   try clear p1
   try clear q1
   try clear hx1
   try clear qi1
   try clear c2
   try clear p2
   try clear c4
   try clear c4b0
   try clear c4b1
   try clear c4b2
   try clear p6
   try clear c8
   try clear c8b0
   try clear c9
   try clear c9b0
   try clear p10
   try clear q10
   try clear hx10
   try clear c11
   try clear c11b0
   try clear c11b1
   try clear p12
   try clear q12
   try clear hx12
   try clear qi12
   try clear c13
   try clear c13b0
   try clear c13b1
   try clear p10
   try clear p12
   try clear p2
   try clear p6
   try clear q10
   try clear q12
   obtain ⟨kq, x6_4, rfl, HA, HJ4, BK413, HB⟩ := hcut
   cases kq with
   | zero => exact absurd HA.out (by simp [verniertop_tie.j1])
   | succ kj4 =>
    have H := HA.out
    clear HA
    simp only [verniertop_tie.j1] at H
    by_cases c14 : 0 < (s5.size : Int)
    ·
     rw [if_pos c14] at H
     have c14b0 : decide (0 < (s5.size : Int)) = true := decide_eq_true c14
     have c14b1 : decide (0 < s5.size) = true := decide_eq_true (by omega)
     clear c14
     have HC16 := Aside0.mk H
     clear H
     have p15 : 0 ≤ (0 : Int) := (by omega)
     have q15 : 0 < s5.size := (by have : (0 : Int) < (s5.size : Int) := of_decide_eq_true (by first | (with_reducible assumption) | assumption); omega)
     have hx15 : ∀ h : 0 < s5.size, ((s5[0]'h).toNat : Int) = bt s5 0 := bt_at s5 0
     clear p15
     have qi15 : (0 < (s5.size : Int)) = True := eq_true (of_decide_eq_true (by first | (with_reducible assumption) | assumption))
     replace q15 := eq_true q15
     go_upto_if 36 with (fail)
     repeat (go_quiet (fail); go_upto_if 36 with (fail))
     go_cut [7] (fun v7 wc => ∃ (kq : Nat) (x7_15 : Int), v7 = .int .i64 x7_15 ∧ Aside0 (verniertop_tie.j2 kq s5 x6_4 x7_15 = some (r1, r2, r3)) ∧ Aside0 (kq ≤ kj4) ∧ Aside0 (wc.heap[gb413]? = some (.cells #[.bool false, (.slice none 0 0), .int .i64 0] 32 (0, 0))) ∧ Aside0 (Below w.heap.size w wc))
     case first =>
      have H := HC16.out
      clear HC16
      by_cases c17 : (bt s5 0) = 49
      ·
       rw [if_pos c17] at H
       have c17b0 : ((bt s5 0) == 49) = true := beq_iff_eq.mpr c17
       have c17b1 : ((bt s5 0) != 49) = false := bne_eq_false_iff_eq.mpr c17
       clear c17
       (first | rw [c17b0] | (simp only [i64_w, i32_w]; rw [c17b0]) | skip)
       have H' := Aside0.mk H
       clear H
       go_wp2
       repeat (go_quiet (fail); try go_wp2)
       go_meet
       case rel => exact ⟨_, (wrap64 (x6_4 - 1)), (by first | rfl | (simp; done) | (simp [*]; done)), H', ⟨by have := HJ4.out; first | omega | exact Nat.le_refl _⟩, ⟨bK3 BK413.out⟩, ⟨bR3 HB.out⟩⟩
      ·
       rw [if_neg c17] at H
       have c17b0 : ((bt s5 0) == 49) = false := beq_eq_false_iff_ne.mpr c17
       have c17b1 : ((bt s5 0) != 49) = true := bne_iff_ne.mpr c17
       (first | rw [c17b0] | (simp only [i64_w, i32_w]; rw [c17b0]) | skip)
       have H' := Aside0.mk H
       clear H
       go_wp2
       repeat (go_quiet (fail); try go_wp2)
       go_meet
       case rel => exact ⟨_, (wrap64 (-x6_4)), (by first | rfl | (simp; done) | (simp [*]; done)), H', ⟨by have := HJ4.out; first | omega | exact Nat.le_refl _⟩, ⟨bK3 BK413.out⟩, ⟨bR3 HB.out⟩⟩
     case rest =>
      clear HC16
      try clear c1
      try clear p1
      try clear q1
      try clear hx1
      try clear qi1
      try clear c2
      try clear p2
      try clear c4
      try clear c4b0
      try clear c4b1
      try clear c4b2
      try clear p6
      try clear c8
      try clear c8b0
      try clear c9
      try clear c9b0
      try clear p10
      try clear q10
      try clear hx10
      try clear c11
      try clear c11b0
      try clear c11b1
      try clear p12
      try clear q12
      try clear hx12
      try clear qi12
      try clear c13
      try clear c13b0
      try clear c13b1
      try clear c14
      try clear c14b0
      try clear c14b1
      try clear p15
      try clear q15
      try clear hx15
      try clear qi15
      try clear c17
      try clear c17b0
      try clear c17b1
      try clear p1
      try clear p10
      try clear p12
      try clear p15
      try clear p2
      try clear p6
      try clear q1
      try clear q10
      try clear q12
      try clear q15
      obtain ⟨kq, x7_15, rfl, HA, HJ15, BK413, HB⟩ := hcut
      cases kq with
      | zero => exact absurd HA.out (by simp [verniertop_tie.j2])
      | succ kj15 =>
       have H := HA.out
       clear HA
       simp only [verniertop_tie.j2] at H
       have HC18 := Aside0.mk H
       clear H
       go_upto_if 42 with (fail)
       repeat (go_quiet (fail); go_upto_if 42 with (fail))
       go_cut [8] (fun v8 wc => ∃ (kq : Nat) (x8_17 : ByteArray), v8 = .string x8_17 ∧ Aside0 (verniertop_tie.j3 kq x7_15 x8_17 = some (r1, r2, r3)) ∧ Aside0 (kq ≤ kj15) ∧ Aside0 (wc.heap[gb413]? = some (.cells #[.bool false, (.slice none 0 0), .int .i64 0] 32 (0, 0))) ∧ Aside0 (Below w.heap.size w wc))
       case first =>
        have H := HC18.out
        clear HC18
        by_cases c19 : x6_4 < (s5.size : Int)
        ·
         rw [if_pos c19] at H
         have c19b0 : decide (x6_4 < (s5.size : Int)) = true := decide_eq_true c19
         clear c19
         (first | rw [c19b0] | (simp only [i64_w, i32_w]; rw [c19b0]) | skip)
         obtain ⟨ji20, hji20⟩ : ∃ j_ : Int, (wrap64 (x6_4 + 1)) = j_ := ⟨_, rfl⟩
         replace H : (if 0 ≤ (ji20) then (if (ji20) ≤ (s5.size : Int) then (verniertop_tie.j3 kj15 x7_15 (s5.extract ((ji20) : Int).toNat s5.size)) else (none)) else (none)) = some (r1, r2, r3) := by first | (rw [hji20] at H; exact H) | (simp only [hji20] at H ⊢; exact H)
         have hji20w : (IntKind.i64.wrap (x6_4 + 1)) = ji20 := (i64_w _).trans hji20
         by_cases c21 : 0 ≤ (ji20)
         ·
          rw [if_pos c21] at H
          have c21b0 := eq_true c21
          have c21b1 : decide (0 ≤ (ji20)) = true := decide_eq_true c21
          clear c21
          by_cases c22 : (ji20) ≤ (s5.size : Int)
          ·
           rw [if_pos c22] at H
           have c22b0 := eq_true c22
           have c22b1 : decide ((ji20) ≤ (s5.size : Int)) = true := decide_eq_true c22
           have H' := Aside0.mk H
           clear H
           go_wp2
           repeat (go_quiet (fail); try go_wp2)
           go_meet
           case rel => exact ⟨_, (s5.extract ((ji20) : Int).toNat s5.size), (by first | rfl | (simp; done) | (simp only [← hji20] <;> (first | rfl | simp)) | (simp [*]; done)), H', ⟨by have := HJ4.out; have := HJ15.out; first | omega | exact Nat.le_refl _⟩, ⟨bK3 BK413.out⟩, ⟨bR3 HB.out⟩⟩
          ·
           rw [if_neg c22] at H
           exact absurd H (by simp)
         ·
          rw [if_neg c21] at H
          exact absurd H (by simp)
        ·
         rw [if_neg c19] at H
         have c19b0 : decide (x6_4 < (s5.size : Int)) = false := decide_eq_false c19
         clear c19
         (first | rw [c19b0] | (simp only [i64_w, i32_w]; rw [c19b0]) | skip)
         have H' := Aside0.mk H
         clear H
         go_wp2
         repeat (go_quiet (fail); try go_wp2)
         go_meet
         case rel => exact ⟨_, ((⟨#[]⟩ : ByteArray)), (by first | rfl | (simp; done) | (simp [*]; done)), H', ⟨by have := HJ4.out; have := HJ15.out; first | omega | exact Nat.le_refl _⟩, ⟨bK3 BK413.out⟩, ⟨bR3 HB.out⟩⟩
       case rest =>
        clear HC18
        try clear c1
        try clear p1
        try clear q1
        try clear hx1
        try clear qi1
        try clear c2
        try clear p2
        try clear c4
        try clear c4b0
        try clear c4b1
        try clear c4b2
        try clear p6
        try clear c8
        try clear c8b0
        try clear c9
        try clear c9b0
        try clear p10
        try clear q10
        try clear hx10
        try clear c11
        try clear c11b0
        try clear c11b1
        try clear p12
        try clear q12
        try clear hx12
        try clear qi12
        try clear c13
        try clear c13b0
        try clear c13b1
        try clear c14
        try clear c14b0
        try clear c14b1
        try clear p15
        try clear q15
        try clear hx15
        try clear qi15
        try clear c17
        try clear c17b0
        try clear c17b1
        try clear c19
        try clear c19b0
        try clear c21
        try clear c21b0
        try clear c21b1
        try clear c22
        try clear c22b0
        try clear c22b1
        try clear p1
        try clear p10
        try clear p12
        try clear p15
        try clear p2
        try clear p6
        try clear q1
        try clear q10
        try clear q12
        try clear q15
        obtain ⟨kq, x8_17, rfl, HA, HJ17, BK413, HB⟩ := hcut
        cases kq with
        | zero => exact absurd HA.out (by simp [verniertop_tie.j3])
        | succ kj17 =>
         have H := HA.out
         clear HA
         simp only [verniertop_tie.j3] at H
         by_cases c23 : x8_17.size + 2 ≤ 9223372036854775807
         ·
          rw [if_pos c23] at H
          have c23b0 := eq_true c23
          have c23b1 : decide (x8_17.size + 2 ≤ 9223372036854775807) = true := decide_eq_true c23
          try have c23b2 : (9223372036854775807 < x8_17.size + 2) = False := eq_false (Nat.not_lt.2 c23)
          by_cases c24 : 0 ≤ 2
          ·
           rw [if_pos c24] at H
           have c24b0 := eq_true c24
           have c24b1 : decide (0 ≤ 2) = true := decide_eq_true c24
           clear c24
           by_cases c25 : 2 ≤ ((x8_17 ++ (⟨#[48, 48]⟩ : ByteArray)).size : Int)
           ·
            rw [if_pos c25] at H
            have c25b0 := eq_true c25
            have c25b1 : decide (2 ≤ ((x8_17 ++ (⟨#[48, 48]⟩ : ByteArray)).size : Int)) = true := decide_eq_true c25
            replace H := Option.bind_eq_some_iff.mp H
            obtain ⟨t415, A260, H⟩ := H
            try dsimp -simprocs only at H
            have A26 := Aside0.mk A260
            clear A260
            obtain ⟨y416, hy416⟩ : ∃ y_ : List Int, y_ = (([1] : List Int)) := ⟨_, rfl⟩
            replace H : (verniertop_tie.l1 kj17 x8_17 (wrap64 ((wrap64 (4 * x7_15)) + (wrap64 (t415)))) y416 2) = some (r1, r2, r3) := by first | (rw [hy416]; with_reducible exact H) | (have H2_ := (Option.bind_some _ _).symm.trans H; rw [hy416]; with_reducible exact H2_) | (have H2_ := (Option.bind_some _ _).symm.trans H; with_reducible exact H2_) | with_reducible exact H | (rw [hy416]; exact H) | exact H
            have Ny416 := Aside0.mk hy416
            clear hy416
            have H' := Aside0.mk H
            clear H
            go_wp2_with (first | (go_at_call 40; (with_reducible refine (vernierref01_Number.calls kj17 ((x8_17 ++ (⟨#[48, 48]⟩ : ByteArray)).extract 0 2) t415 _ A26.out).mono ?_); rintro e w' ⟨rfl, ⟨nd, rfl⟩⟩; (try first | exact ⟨rfl, _, World.drewN_drewN _ _ _⟩ | exact ⟨rfl, _, Eq.trans (World.drewN_drewN _ _ _) (congrArg (World.drewN _) (Nat.add_assoc _ _ _))⟩)) | ((with_reducible refine gD (N := 56) rfl ?_); refine Kd.R_lit (Kd.int .i64) _ 3 ?hg (N := 56) ?hd (xs := ([1] : List Int)) (inner := [.int .i64 1]) (ok := fun _ => True) (okp := fun _ => True) ?hr ?hp (fun _ hk => hk) trivial (Below.refl _ _) (Nat.le_refl _) (by simp) ?_; (case hd => rfl); (case hg => rfl); (case hr => first | (go_simp; done) | (go_simp; rfl)); (case hp => exact (Reps.one (show Kd.M (Kd.int .i64) _ _ _ 1 [.int .i64 1] from rfl) (Reps.none _ _))); intro v417 w27 ho28 hb hg_ hnew_; clear hg_ hnew_; (first | rw [← Ny416.out] at ho28 | (simp only [Int.reduceToNat] at ho28; rw [← Ny416.out] at ho28)); have HO418 := Aside0.mk (Kd.R_lower ho28 (bZ (bR3 HB.out))); replace BK413 := Aside0.mk (bB3 BK413.out hb); replace HB := Aside0.mk (bS3 HB.out hb); clear hb ho28))
            repeat (go_quiet (first | (go_at_call 40; (with_reducible refine (vernierref01_Number.calls kj17 ((x8_17 ++ (⟨#[48, 48]⟩ : ByteArray)).extract 0 2) t415 _ A26.out).mono ?_); rintro e w' ⟨rfl, ⟨nd, rfl⟩⟩; (try first | exact ⟨rfl, _, World.drewN_drewN _ _ _⟩ | exact ⟨rfl, _, Eq.trans (World.drewN_drewN _ _ _) (congrArg (World.drewN _) (Nat.add_assoc _ _ _))⟩)) | ((with_reducible refine gD (N := 56) rfl ?_); refine Kd.R_lit (Kd.int .i64) _ 3 ?hg (N := 56) ?hd (xs := ([1] : List Int)) (inner := [.int .i64 1]) (ok := fun _ => True) (okp := fun _ => True) ?hr ?hp (fun _ hk => hk) trivial (Below.refl _ _) (Nat.le_refl _) (by simp) ?_; (case hd => rfl); (case hg => rfl); (case hr => first | (go_simp; done) | (go_simp; rfl)); (case hp => exact (Reps.one (show Kd.M (Kd.int .i64) _ _ _ 1 [.int .i64 1] from rfl) (Reps.none _ _))); intro v417 w27 ho28 hb hg_ hnew_; clear hg_ hnew_; (first | rw [← Ny416.out] at ho28 | (simp only [Int.reduceToNat] at ho28; rw [← Ny416.out] at ho28)); have HO418 := Aside0.mk (Kd.R_lower ho28 (bZ (bR3 HB.out))); replace BK413 := Aside0.mk (bB3 BK413.out hb); replace HB := Aside0.mk (bS3 HB.out hb); clear hb ho28)); try go_wp2_with (first | (go_at_call 40; (with_reducible refine (vernierref01_Number.calls kj17 ((x8_17 ++ (⟨#[48, 48]⟩ : ByteArray)).extract 0 2) t415 _ A26.out).mono ?_); rintro e w' ⟨rfl, ⟨nd, rfl⟩⟩; (try first | exact ⟨rfl, _, World.drewN_drewN _ _ _⟩ | exact ⟨rfl, _, Eq.trans (World.drewN_drewN _ _ _) (congrArg (World.drewN _) (Nat.add_assoc _ _ _))⟩)) | ((with_reducible refine gD (N := 56) rfl ?_); refine Kd.R_lit (Kd.int .i64) _ 3 ?hg (N := 56) ?hd (xs := ([1] : List Int)) (inner := [.int .i64 1]) (ok := fun _ => True) (okp := fun _ => True) ?hr ?hp (fun _ hk => hk) trivial (Below.refl _ _) (Nat.le_refl _) (by simp) ?_; (case hd => rfl); (case hg => rfl); (case hr => first | (go_simp; done) | (go_simp; rfl)); (case hp => exact (Reps.one (show Kd.M (Kd.int .i64) _ _ _ 1 [.int .i64 1] from rfl) (Reps.none _ _))); intro v417 w27 ho28 hb hg_ hnew_; clear hg_ hnew_; (first | rw [← Ny416.out] at ho28 | (simp only [Int.reduceToNat] at ho28; rw [← Ny416.out] at ho28)); have HO418 := Aside0.mk (Kd.R_lower ho28 (bZ (bR3 HB.out))); replace BK413 := Aside0.mk (bB3 BK413.out hb); replace HB := Aside0.mk (bS3 HB.out hb); clear hb ho28)))
            go_loopg [10, 11, 12] kj17 (fun kq v10 v11 v12 w' => ∃ (x10_4 : Int) (x11_4 : List Int) (x12_4 : Int), v10 = .int .i64 x10_4 ∧ v12 = .int .i64 x12_4 ∧ Aside0 (verniertop_tie.l1 kq x8_17 x10_4 x11_4 x12_4 = some (r1, r2, r3)) ∧ Aside0 (kq ≤ kj17) ∧ Aside0 (Kd.R (Kd.int .i64) 3 w' w.heap.size (fun _ => True) v11 x11_4) ∧ Aside0 (w'.heap[gb413]? = some (.cells #[.bool false, (.slice none 0 0), .int .i64 0] 32 (0, 0))) ∧ Aside0 (Below w.heap.size w w'))
            case atStart => exact ⟨(wrap64 ((wrap64 (4 * x7_15)) + (wrap64 (t415)))), (y416), (2), (by first | rfl | (simp; done) | (simp [*]; done)), (by first | rfl | (simp; done) | (simp [*]; done)), H', ⟨Nat.le_refl _⟩, ⟨by (with_reducible repeat (first | apply Kd.R_alloc | apply Kd.R_drewN | apply Kd.R_drew)); exact HO418.out⟩, ⟨bK3 BK413.out⟩, ⟨bR3 HB.out⟩⟩
            case round =>
             clear H'
             try clear c1
             try clear p1
             try clear q1
             try clear hx1
             try clear qi1
             try clear c2
             try clear p2
             try clear c4
             try clear c4b0
             try clear c4b1
             try clear c4b2
             try clear p6
             try clear c8
             try clear c8b0
             try clear c9
             try clear c9b0
             try clear p10
             try clear q10
             try clear hx10
             try clear c11
             try clear c11b0
             try clear c11b1
             try clear p12
             try clear q12
             try clear hx12
             try clear qi12
             try clear c13
             try clear c13b0
             try clear c13b1
             try clear c14
             try clear c14b0
             try clear c14b1
             try clear p15
             try clear q15
             try clear hx15
             try clear qi15
             try clear c17
             try clear c17b0
             try clear c17b1
             try clear c19
             try clear c19b0
             try clear c21
             try clear c21b0
             try clear c21b1
             try clear c22
             try clear c22b0
             try clear c22b1
             try clear c23
             try clear c23b0
             try clear c23b1
             try clear c23b2
             try clear c24
             try clear c24b0
             try clear c24b1
             try clear c25
             try clear c25b0
             try clear c25b1
             try clear c26
             try clear p1
             try clear p10
             try clear p12
             try clear p15
             try clear p2
             try clear p6
             try clear q1
             try clear q10
             try clear q12
             try clear q15
             obtain ⟨x10_4, x11_4, x12_4, rfl, rfl, HA, HK4, HO_11, BK413, HB⟩ := hrel
             cases gk with
             | zero => exact absurd HA.out (by simp [verniertop_tie.l1])
             | succ k4 =>
              have H := HA.out
              clear HA
              simp only [verniertop_tie.l1] at H
              by_cases c29 : x12_4 < (x8_17.size : Int)
              ·
               rw [if_pos c29] at H
               have c29b0 : decide (x12_4 < (x8_17.size : Int)) = true := decide_eq_true c29
               clear c29
               replace H := Option.bind_eq_some_iff.mp H
               obtain ⟨t419, A300, H⟩ := H
               try dsimp -simprocs only at H
               have A30 := Aside0.mk A300
               clear A300
               by_cases c31 : 0 ≤ x12_4
               ·
                rw [if_pos c31] at H
                have c31b0 : decide (0 ≤ x12_4) = true := decide_eq_true c31
                clear c31
                by_cases c33 : (bt x8_17 x12_4) = 49
                ·
                 rw [if_pos c33] at H
                 have c33b0 : ((bt x8_17 x12_4) == 49) = true := beq_iff_eq.mpr c33
                 have c33b1 : ((bt x8_17 x12_4) != 49) = false := bne_eq_false_iff_eq.mpr c33
                 clear c33
                 obtain ⟨y422, hy422⟩ : ∃ y_ : List Int, y_ = (([1] : List Int)) := ⟨_, rfl⟩
                 replace H : ((vernierref04_Add.f k4 t419 y422).bind fun t425 => (verniertop_tie.l1 k4 x8_17 (wrap64 (x10_4 - 1)) t425 (wrap64 (x12_4 + 1)))) = some (r1, r2, r3) := by first | (rw [hy422]; with_reducible exact H) | (have H2_ := (Option.bind_some _ _).symm.trans H; rw [hy422]; with_reducible exact H2_) | (have H2_ := (Option.bind_some _ _).symm.trans H; with_reducible exact H2_) | with_reducible exact H | (rw [hy422]; exact H) | exact H
                 have Ny422 := Aside0.mk hy422
                 clear hy422
                 replace H := Option.bind_eq_some_iff.mp H
                 obtain ⟨t425, A340, H⟩ := H
                 try dsimp -simprocs only at H
                 have A34 := Aside0.mk A340
                 clear A340
                 have H' := Aside0.mk H
                 clear H
                 obtain ⟨Ao35, co35, eo35⟩ := Kd.R_slice HO_11.out
                 subst eo35
                 go_wp2_with (first | (go_at_call 41; (with_reducible refine (vernierref04_Shl.calls k4 _ _ x11_4 1 t419 _ ?side1 ?side2 A30.out).mono ?_); (case side1 => repeat (first | exact (Kd.R_reads' HO_11.out).2.2 | (with_reducible refine Kd.C_alloc ?_ _) | (with_reducible refine Kd.C_drewN ?_ _) | (with_reducible refine Kd.C_drew ?_))); (case side2 => exact (Kd.R_reads' HO_11.out).2.1); rintro e w36 ⟨v420, rfl, ho0, hb⟩; have HO421 := Aside0.mk (Kd.R_lower (Kd.R_new' ho0 (Kd.R_lt (by (with_reducible repeat (first | apply Kd.R_alloc | apply Kd.R_drewN | apply Kd.R_drew)); exact HO_11.out))) (bZ (bR3 HB.out))); replace HO_11 := Aside0.mk (Kd.R_elder' (by (with_reducible repeat (first | apply Kd.R_alloc | apply Kd.R_drewN | apply Kd.R_drew)); exact HO_11.out) (Kd.R_base ho0) hb); replace BK413 := Aside0.mk (bB3 BK413.out hb); replace HB := Aside0.mk (bS3 HB.out hb); (try clear hb); (try clear hk); (try clear ho0); have p32 : 0 ≤ (x12_4 : Int) := of_decide_eq_true (by first | (with_reducible assumption) | assumption); have q32 : x12_4 < (x8_17.size : Int) := of_decide_eq_true (by first | (with_reducible assumption) | assumption); have hx32 := bt_at x8_17 x12_4; replace p32 := eq_true p32; replace q32 := eq_true q32) | ((with_reducible refine gD (N := 70) rfl ?_); refine Kd.R_lit (Kd.int .i64) _ 3 ?hg (N := 70) ?hd (xs := ([1] : List Int)) (inner := [.int .i64 1]) (ok := fun _ => True) (okp := fun _ => True) ?hr ?hp (fun _ hk => hk) trivial (Below.refl _ _) (Nat.le_refl _) (by simp) ?_; (case hd => rfl); (case hg => rfl); (case hr => first | (go_simp; done) | (go_simp; rfl)); (case hp => exact (Reps.one (show Kd.M (Kd.int .i64) _ _ _ 1 [.int .i64 1] from rfl) (Reps.none _ _))); intro v423 w37 ho38 hb hg_ hnew_; clear hg_ hnew_; (first | rw [← Ny422.out] at ho38 | (simp only [Int.reduceToNat] at ho38; rw [← Ny422.out] at ho38)); have HO424 := Aside0.mk (Kd.R_lower (Kd.R_new' (Kd.R_new' ho38 (Kd.R_lt (by (with_reducible repeat (first | apply Kd.R_alloc | apply Kd.R_drewN | apply Kd.R_drew)); exact HO_11.out))) (Kd.R_lt (by (with_reducible repeat (first | apply Kd.R_alloc | apply Kd.R_drewN | apply Kd.R_drew)); exact HO421.out))) (bZ (bR3 HB.out))); replace HO_11 := Aside0.mk (Kd.R_elder' (by (with_reducible repeat (first | apply Kd.R_alloc | apply Kd.R_drewN | apply Kd.R_drew)); exact HO_11.out) (Kd.R_base ho38) hb); replace HO421 := Aside0.mk (Kd.R_elder' (by (with_reducible repeat (first | apply Kd.R_alloc | apply Kd.R_drewN | apply Kd.R_drew)); exact HO421.out) (Kd.R_base ho38) hb); replace BK413 := Aside0.mk (bB3 BK413.out hb); replace HB := Aside0.mk (bS3 HB.out hb); clear hb ho38; obtain ⟨Ao39, co39, eo39⟩ := Kd.R_slice HO421.out; subst eo39; obtain ⟨Ao40, co40, eo40⟩ := Kd.R_slice HO424.out; subst eo40) | (go_at_call 18; (with_reducible refine (vernierref04_Add.calls k4 _ _ t419 _ _ y422 t425 _ ?side1 ?side2 ?side3 ?side4 A34.out).mono ?_); (case side1 => repeat (first | exact (Kd.R_reads' HO421.out).2.2 | (with_reducible refine Kd.C_alloc ?_ _) | (with_reducible refine Kd.C_drewN ?_ _) | (with_reducible refine Kd.C_drew ?_))); (case side2 => exact (Kd.R_reads' HO421.out).2.1); (case side3 => repeat (first | exact (Kd.R_reads' HO424.out).2.2 | (with_reducible refine Kd.C_alloc ?_ _) | (with_reducible refine Kd.C_drewN ?_ _) | (with_reducible refine Kd.C_drew ?_))); (case side4 => exact (Kd.R_reads' HO424.out).2.1); rintro e w41 ⟨v426, rfl, ho0, hb⟩; have HO427 := Aside0.mk (Kd.R_lower (Kd.R_new' (Kd.R_new' (Kd.R_new' ho0 (Kd.R_lt (by (with_reducible repeat (first | apply Kd.R_alloc | apply Kd.R_drewN | apply Kd.R_drew)); exact HO_11.out))) (Kd.R_lt (by (with_reducible repeat (first | apply Kd.R_alloc | apply Kd.R_drewN | apply Kd.R_drew)); exact HO421.out))) (Kd.R_lt (by (with_reducible repeat (first | apply Kd.R_alloc | apply Kd.R_drewN | apply Kd.R_drew)); exact HO424.out))) (bZ (bR3 HB.out))); replace HO_11 := Aside0.mk (Kd.R_elder' (by (with_reducible repeat (first | apply Kd.R_alloc | apply Kd.R_drewN | apply Kd.R_drew)); exact HO_11.out) (Kd.R_base ho0) hb); replace HO421 := Aside0.mk (Kd.R_elder' (by (with_reducible repeat (first | apply Kd.R_alloc | apply Kd.R_drewN | apply Kd.R_drew)); exact HO421.out) (Kd.R_base ho0) hb); replace HO424 := Aside0.mk (Kd.R_elder' (by (with_reducible repeat (first | apply Kd.R_alloc | apply Kd.R_drewN | apply Kd.R_drew)); exact HO424.out) (Kd.R_base ho0) hb); replace BK413 := Aside0.mk (bB3 BK413.out hb); replace HB := Aside0.mk (bS3 HB.out hb); (try clear hb); (try clear hk); (try clear ho0)))
                 repeat (go_quiet (first | (go_at_call 41; (with_reducible refine (vernierref04_Shl.calls k4 _ _ x11_4 1 t419 _ ?side1 ?side2 A30.out).mono ?_); (case side1 => repeat (first | exact (Kd.R_reads' HO_11.out).2.2 | (with_reducible refine Kd.C_alloc ?_ _) | (with_reducible refine Kd.C_drewN ?_ _) | (with_reducible refine Kd.C_drew ?_))); (case side2 => exact (Kd.R_reads' HO_11.out).2.1); rintro e w36 ⟨v420, rfl, ho0, hb⟩; have HO421 := Aside0.mk (Kd.R_lower (Kd.R_new' ho0 (Kd.R_lt (by (with_reducible repeat (first | apply Kd.R_alloc | apply Kd.R_drewN | apply Kd.R_drew)); exact HO_11.out))) (bZ (bR3 HB.out))); replace HO_11 := Aside0.mk (Kd.R_elder' (by (with_reducible repeat (first | apply Kd.R_alloc | apply Kd.R_drewN | apply Kd.R_drew)); exact HO_11.out) (Kd.R_base ho0) hb); replace BK413 := Aside0.mk (bB3 BK413.out hb); replace HB := Aside0.mk (bS3 HB.out hb); (try clear hb); (try clear hk); (try clear ho0); have p32 : 0 ≤ (x12_4 : Int) := of_decide_eq_true (by first | (with_reducible assumption) | assumption); have q32 : x12_4 < (x8_17.size : Int) := of_decide_eq_true (by first | (with_reducible assumption) | assumption); have hx32 := bt_at x8_17 x12_4; replace p32 := eq_true p32; replace q32 := eq_true q32) | ((with_reducible refine gD (N := 70) rfl ?_); refine Kd.R_lit (Kd.int .i64) _ 3 ?hg (N := 70) ?hd (xs := ([1] : List Int)) (inner := [.int .i64 1]) (ok := fun _ => True) (okp := fun _ => True) ?hr ?hp (fun _ hk => hk) trivial (Below.refl _ _) (Nat.le_refl _) (by simp) ?_; (case hd => rfl); (case hg => rfl); (case hr => first | (go_simp; done) | (go_simp; rfl)); (case hp => exact (Reps.one (show Kd.M (Kd.int .i64) _ _ _ 1 [.int .i64 1] from rfl) (Reps.none _ _))); intro v423 w37 ho38 hb hg_ hnew_; clear hg_ hnew_; (first | rw [← Ny422.out] at ho38 | (simp only [Int.reduceToNat] at ho38; rw [← Ny422.out] at ho38)); have HO424 := Aside0.mk (Kd.R_lower (Kd.R_new' (Kd.R_new' ho38 (Kd.R_lt (by (with_reducible repeat (first | apply Kd.R_alloc | apply Kd.R_drewN | apply Kd.R_drew)); exact HO_11.out))) (Kd.R_lt (by (with_reducible repeat (first | apply Kd.R_alloc | apply Kd.R_drewN | apply Kd.R_drew)); exact HO421.out))) (bZ (bR3 HB.out))); replace HO_11 := Aside0.mk (Kd.R_elder' (by (with_reducible repeat (first | apply Kd.R_alloc | apply Kd.R_drewN | apply Kd.R_drew)); exact HO_11.out) (Kd.R_base ho38) hb); replace HO421 := Aside0.mk (Kd.R_elder' (by (with_reducible repeat (first | apply Kd.R_alloc | apply Kd.R_drewN | apply Kd.R_drew)); exact HO421.out) (Kd.R_base ho38) hb); replace BK413 := Aside0.mk (bB3 BK413.out hb); replace HB := Aside0.mk (bS3 HB.out hb); clear hb ho38; obtain ⟨Ao39, co39, eo39⟩ := Kd.R_slice HO421.out; subst eo39; obtain ⟨Ao40, co40, eo40⟩ := Kd.R_slice HO424.out; subst eo40) | (go_at_call 18; (with_reducible refine (vernierref04_Add.calls k4 _ _ t419 _ _ y422 t425 _ ?side1 ?side2 ?side3 ?side4 A34.out).mono ?_); (case side1 => repeat (first | exact (Kd.R_reads' HO421.out).2.2 | (with_reducible refine Kd.C_alloc ?_ _) | (with_reducible refine Kd.C_drewN ?_ _) | (with_reducible refine Kd.C_drew ?_))); (case side2 => exact (Kd.R_reads' HO421.out).2.1); (case side3 => repeat (first | exact (Kd.R_reads' HO424.out).2.2 | (with_reducible refine Kd.C_alloc ?_ _) | (with_reducible refine Kd.C_drewN ?_ _) | (with_reducible refine Kd.C_drew ?_))); (case side4 => exact (Kd.R_reads' HO424.out).2.1); rintro e w41 ⟨v426, rfl, ho0, hb⟩; have HO427 := Aside0.mk (Kd.R_lower (Kd.R_new' (Kd.R_new' (Kd.R_new' ho0 (Kd.R_lt (by (with_reducible repeat (first | apply Kd.R_alloc | apply Kd.R_drewN | apply Kd.R_drew)); exact HO_11.out))) (Kd.R_lt (by (with_reducible repeat (first | apply Kd.R_alloc | apply Kd.R_drewN | apply Kd.R_drew)); exact HO421.out))) (Kd.R_lt (by (with_reducible repeat (first | apply Kd.R_alloc | apply Kd.R_drewN | apply Kd.R_drew)); exact HO424.out))) (bZ (bR3 HB.out))); replace HO_11 := Aside0.mk (Kd.R_elder' (by (with_reducible repeat (first | apply Kd.R_alloc | apply Kd.R_drewN | apply Kd.R_drew)); exact HO_11.out) (Kd.R_base ho0) hb); replace HO421 := Aside0.mk (Kd.R_elder' (by (with_reducible repeat (first | apply Kd.R_alloc | apply Kd.R_drewN | apply Kd.R_drew)); exact HO421.out) (Kd.R_base ho0) hb); replace HO424 := Aside0.mk (Kd.R_elder' (by (with_reducible repeat (first | apply Kd.R_alloc | apply Kd.R_drewN | apply Kd.R_drew)); exact HO424.out) (Kd.R_base ho0) hb); replace BK413 := Aside0.mk (bB3 BK413.out hb); replace HB := Aside0.mk (bS3 HB.out hb); (try clear hb); (try clear hk); (try clear ho0))); try go_wp2_with (first | (go_at_call 41; (with_reducible refine (vernierref04_Shl.calls k4 _ _ x11_4 1 t419 _ ?side1 ?side2 A30.out).mono ?_); (case side1 => repeat (first | exact (Kd.R_reads' HO_11.out).2.2 | (with_reducible refine Kd.C_alloc ?_ _) | (with_reducible refine Kd.C_drewN ?_ _) | (with_reducible refine Kd.C_drew ?_))); (case side2 => exact (Kd.R_reads' HO_11.out).2.1); rintro e w36 ⟨v420, rfl, ho0, hb⟩; have HO421 := Aside0.mk (Kd.R_lower (Kd.R_new' ho0 (Kd.R_lt (by (with_reducible repeat (first | apply Kd.R_alloc | apply Kd.R_drewN | apply Kd.R_drew)); exact HO_11.out))) (bZ (bR3 HB.out))); replace HO_11 := Aside0.mk (Kd.R_elder' (by (with_reducible repeat (first | apply Kd.R_alloc | apply Kd.R_drewN | apply Kd.R_drew)); exact HO_11.out) (Kd.R_base ho0) hb); replace BK413 := Aside0.mk (bB3 BK413.out hb); replace HB := Aside0.mk (bS3 HB.out hb); (try clear hb); (try clear hk); (try clear ho0); have p32 : 0 ≤ (x12_4 : Int) := of_decide_eq_true (by first | (with_reducible assumption) | assumption); have q32 : x12_4 < (x8_17.size : Int) := of_decide_eq_true (by first | (with_reducible assumption) | assumption); have hx32 := bt_at x8_17 x12_4; replace p32 := eq_true p32; replace q32 := eq_true q32) | ((with_reducible refine gD (N := 70) rfl ?_); refine Kd.R_lit (Kd.int .i64) _ 3 ?hg (N := 70) ?hd (xs := ([1] : List Int)) (inner := [.int .i64 1]) (ok := fun _ => True) (okp := fun _ => True) ?hr ?hp (fun _ hk => hk) trivial (Below.refl _ _) (Nat.le_refl _) (by simp) ?_; (case hd => rfl); (case hg => rfl); (case hr => first | (go_simp; done) | (go_simp; rfl)); (case hp => exact (Reps.one (show Kd.M (Kd.int .i64) _ _ _ 1 [.int .i64 1] from rfl) (Reps.none _ _))); intro v423 w37 ho38 hb hg_ hnew_; clear hg_ hnew_; (first | rw [← Ny422.out] at ho38 | (simp only [Int.reduceToNat] at ho38; rw [← Ny422.out] at ho38)); have HO424 := Aside0.mk (Kd.R_lower (Kd.R_new' (Kd.R_new' ho38 (Kd.R_lt (by (with_reducible repeat (first | apply Kd.R_alloc | apply Kd.R_drewN | apply Kd.R_drew)); exact HO_11.out))) (Kd.R_lt (by (with_reducible repeat (first | apply Kd.R_alloc | apply Kd.R_drewN | apply Kd.R_drew)); exact HO421.out))) (bZ (bR3 HB.out))); replace HO_11 := Aside0.mk (Kd.R_elder' (by (with_reducible repeat (first | apply Kd.R_alloc | apply Kd.R_drewN | apply Kd.R_drew)); exact HO_11.out) (Kd.R_base ho38) hb); replace HO421 := Aside0.mk (Kd.R_elder' (by (with_reducible repeat (first | apply Kd.R_alloc | apply Kd.R_drewN | apply Kd.R_drew)); exact HO421.out) (Kd.R_base ho38) hb); replace BK413 := Aside0.mk (bB3 BK413.out hb); replace HB := Aside0.mk (bS3 HB.out hb); clear hb ho38; obtain ⟨Ao39, co39, eo39⟩ := Kd.R_slice HO421.out; subst eo39; obtain ⟨Ao40, co40, eo40⟩ := Kd.R_slice HO424.out; subst eo40) | (go_at_call 18; (with_reducible refine (vernierref04_Add.calls k4 _ _ t419 _ _ y422 t425 _ ?side1 ?side2 ?side3 ?side4 A34.out).mono ?_); (case side1 => repeat (first | exact (Kd.R_reads' HO421.out).2.2 | (with_reducible refine Kd.C_alloc ?_ _) | (with_reducible refine Kd.C_drewN ?_ _) | (with_reducible refine Kd.C_drew ?_))); (case side2 => exact (Kd.R_reads' HO421.out).2.1); (case side3 => repeat (first | exact (Kd.R_reads' HO424.out).2.2 | (with_reducible refine Kd.C_alloc ?_ _) | (with_reducible refine Kd.C_drewN ?_ _) | (with_reducible refine Kd.C_drew ?_))); (case side4 => exact (Kd.R_reads' HO424.out).2.1); rintro e w41 ⟨v426, rfl, ho0, hb⟩; have HO427 := Aside0.mk (Kd.R_lower (Kd.R_new' (Kd.R_new' (Kd.R_new' ho0 (Kd.R_lt (by (with_reducible repeat (first | apply Kd.R_alloc | apply Kd.R_drewN | apply Kd.R_drew)); exact HO_11.out))) (Kd.R_lt (by (with_reducible repeat (first | apply Kd.R_alloc | apply Kd.R_drewN | apply Kd.R_drew)); exact HO421.out))) (Kd.R_lt (by (with_reducible repeat (first | apply Kd.R_alloc | apply Kd.R_drewN | apply Kd.R_drew)); exact HO424.out))) (bZ (bR3 HB.out))); replace HO_11 := Aside0.mk (Kd.R_elder' (by (with_reducible repeat (first | apply Kd.R_alloc | apply Kd.R_drewN | apply Kd.R_drew)); exact HO_11.out) (Kd.R_base ho0) hb); replace HO421 := Aside0.mk (Kd.R_elder' (by (with_reducible repeat (first | apply Kd.R_alloc | apply Kd.R_drewN | apply Kd.R_drew)); exact HO421.out) (Kd.R_base ho0) hb); replace HO424 := Aside0.mk (Kd.R_elder' (by (with_reducible repeat (first | apply Kd.R_alloc | apply Kd.R_drewN | apply Kd.R_drew)); exact HO424.out) (Kd.R_base ho0) hb); replace BK413 := Aside0.mk (bB3 BK413.out hb); replace HB := Aside0.mk (bS3 HB.out hb); (try clear hb); (try clear hk); (try clear ho0))))
                 go_roundg k4
                 case measure => have := HJ4.out; have := HJ15.out; have := HJ17.out; have := HK4.out; omega
                 case rel => exact ⟨(wrap64 (x10_4 - 1)), (t425), (wrap64 (x12_4 + 1)), (by first | rfl | (simp; done) | (simp [*]; done)), (by first | rfl | (simp; done) | (simp [*]; done)), H', ⟨by have := HJ4.out; have := HJ15.out; have := HJ17.out; have := HK4.out; omega⟩, ⟨by (with_reducible repeat (first | apply Kd.R_alloc | apply Kd.R_drewN | apply Kd.R_drew)); exact Kd.R_mono HO427.out (fun _ hk => trivial)⟩, ⟨bK3 BK413.out⟩, ⟨bR3 HB.out⟩⟩
                ·
                 rw [if_neg c33] at H
                 have c33b0 : ((bt x8_17 x12_4) == 49) = false := beq_eq_false_iff_ne.mpr c33
                 have c33b1 : ((bt x8_17 x12_4) != 49) = true := bne_iff_ne.mpr c33
                 have H' := Aside0.mk H
                 clear H
                 obtain ⟨Ao42, co42, eo42⟩ := Kd.R_slice HO_11.out
                 subst eo42
                 go_wp2_with (first | (go_at_call 41; (with_reducible refine (vernierref04_Shl.calls k4 _ _ x11_4 1 t419 _ ?side1 ?side2 A30.out).mono ?_); (case side1 => repeat (first | exact (Kd.R_reads' HO_11.out).2.2 | (with_reducible refine Kd.C_alloc ?_ _) | (with_reducible refine Kd.C_drewN ?_ _) | (with_reducible refine Kd.C_drew ?_))); (case side2 => exact (Kd.R_reads' HO_11.out).2.1); rintro e w43 ⟨v420, rfl, ho0, hb⟩; have HO421 := Aside0.mk (Kd.R_lower (Kd.R_new' ho0 (Kd.R_lt (by (with_reducible repeat (first | apply Kd.R_alloc | apply Kd.R_drewN | apply Kd.R_drew)); exact HO_11.out))) (bZ (bR3 HB.out))); replace HO_11 := Aside0.mk (Kd.R_elder' (by (with_reducible repeat (first | apply Kd.R_alloc | apply Kd.R_drewN | apply Kd.R_drew)); exact HO_11.out) (Kd.R_base ho0) hb); replace BK413 := Aside0.mk (bB3 BK413.out hb); replace HB := Aside0.mk (bS3 HB.out hb); (try clear hb); (try clear hk); (try clear ho0); have p32 : 0 ≤ (x12_4 : Int) := of_decide_eq_true (by first | (with_reducible assumption) | assumption); have q32 : x12_4 < (x8_17.size : Int) := of_decide_eq_true (by first | (with_reducible assumption) | assumption); have hx32 := bt_at x8_17 x12_4; replace p32 := eq_true p32; replace q32 := eq_true q32))
                 repeat (go_quiet (first | (go_at_call 41; (with_reducible refine (vernierref04_Shl.calls k4 _ _ x11_4 1 t419 _ ?side1 ?side2 A30.out).mono ?_); (case side1 => repeat (first | exact (Kd.R_reads' HO_11.out).2.2 | (with_reducible refine Kd.C_alloc ?_ _) | (with_reducible refine Kd.C_drewN ?_ _) | (with_reducible refine Kd.C_drew ?_))); (case side2 => exact (Kd.R_reads' HO_11.out).2.1); rintro e w43 ⟨v420, rfl, ho0, hb⟩; have HO421 := Aside0.mk (Kd.R_lower (Kd.R_new' ho0 (Kd.R_lt (by (with_reducible repeat (first | apply Kd.R_alloc | apply Kd.R_drewN | apply Kd.R_drew)); exact HO_11.out))) (bZ (bR3 HB.out))); replace HO_11 := Aside0.mk (Kd.R_elder' (by (with_reducible repeat (first | apply Kd.R_alloc | apply Kd.R_drewN | apply Kd.R_drew)); exact HO_11.out) (Kd.R_base ho0) hb); replace BK413 := Aside0.mk (bB3 BK413.out hb); replace HB := Aside0.mk (bS3 HB.out hb); (try clear hb); (try clear hk); (try clear ho0); have p32 : 0 ≤ (x12_4 : Int) := of_decide_eq_true (by first | (with_reducible assumption) | assumption); have q32 : x12_4 < (x8_17.size : Int) := of_decide_eq_true (by first | (with_reducible assumption) | assumption); have hx32 := bt_at x8_17 x12_4; replace p32 := eq_true p32; replace q32 := eq_true q32)); try go_wp2_with (first | (go_at_call 41; (with_reducible refine (vernierref04_Shl.calls k4 _ _ x11_4 1 t419 _ ?side1 ?side2 A30.out).mono ?_); (case side1 => repeat (first | exact (Kd.R_reads' HO_11.out).2.2 | (with_reducible refine Kd.C_alloc ?_ _) | (with_reducible refine Kd.C_drewN ?_ _) | (with_reducible refine Kd.C_drew ?_))); (case side2 => exact (Kd.R_reads' HO_11.out).2.1); rintro e w43 ⟨v420, rfl, ho0, hb⟩; have HO421 := Aside0.mk (Kd.R_lower (Kd.R_new' ho0 (Kd.R_lt (by (with_reducible repeat (first | apply Kd.R_alloc | apply Kd.R_drewN | apply Kd.R_drew)); exact HO_11.out))) (bZ (bR3 HB.out))); replace HO_11 := Aside0.mk (Kd.R_elder' (by (with_reducible repeat (first | apply Kd.R_alloc | apply Kd.R_drewN | apply Kd.R_drew)); exact HO_11.out) (Kd.R_base ho0) hb); replace BK413 := Aside0.mk (bB3 BK413.out hb); replace HB := Aside0.mk (bS3 HB.out hb); (try clear hb); (try clear hk); (try clear ho0); have p32 : 0 ≤ (x12_4 : Int) := of_decide_eq_true (by first | (with_reducible assumption) | assumption); have q32 : x12_4 < (x8_17.size : Int) := of_decide_eq_true (by first | (with_reducible assumption) | assumption); have hx32 := bt_at x8_17 x12_4; replace p32 := eq_true p32; replace q32 := eq_true q32)))
                 go_roundg k4
                 case measure => have := HJ4.out; have := HJ15.out; have := HJ17.out; have := HK4.out; omega
                 case rel => exact ⟨(wrap64 (x10_4 - 1)), (t419), (wrap64 (x12_4 + 1)), (by first | rfl | (simp; done) | (simp [*]; done)), (by first | rfl | (simp; done) | (simp [*]; done)), H', ⟨by have := HJ4.out; have := HJ15.out; have := HJ17.out; have := HK4.out; omega⟩, ⟨by (with_reducible repeat (first | apply Kd.R_alloc | apply Kd.R_drewN | apply Kd.R_drew)); exact Kd.R_mono HO421.out (fun _ hk => trivial)⟩, ⟨bK3 BK413.out⟩, ⟨bR3 HB.out⟩⟩
               ·
                rw [if_neg c31] at H
                exact absurd H (by simp)
              ·
               rw [if_neg c29] at H
               have c29b0 : decide (x12_4 < (x8_17.size : Int)) = false := decide_eq_false c29
               clear c29
               simp only [Option.some.injEq, Prod.mk.injEq] at H
               obtain ⟨rfl, rfl, rfl⟩ := H
               obtain ⟨Ao44, co44, eo44⟩ := Kd.R_slice HO_11.out
               subst eo44
               obtain ⟨hcz45_0, hcz45_1, hcz45_2, hfz45_0, hfz45_1, hfz45_2⟩ := cl3 BK413.out
               go_wp2
               repeat (go_quiet (fail); try go_wp2)
               refine bodyPost_ret (results_cell_row rfl _ _ gb413 32 #[.bool false, .slice Ao44 x11_4.length co44, .int .i64 x10_4] (0, 0) _ rfl (bQ3 BK413.out) Try.underlying32 rfl (by kernel_rfl)) rfl ?_
               exact ⟨_, eR3, by (with_reducible repeat (first | apply Kd.R_alloc | apply Kd.R_drewN | apply Kd.R_drew)); exact Kd.R_mono (Kd.R_far (p := ⟨gb413, 2, none⟩) (Kd.R_far (p := ⟨gb413, 1, none⟩) (Kd.R_far (p := ⟨gb413, 0, none⟩) (Kd.R_types HO_11.out BK413.out (by decide)) (fun _ hk => hk.2) (.bool false)) (fun _ hk => hk.2) (.slice Ao44 x11_4.length co44)) (fun _ hk => hk.2) (.int .i64 x10_4)) (fun _ hk => trivial), bR3 HB.out⟩
           ·
            rw [if_neg c25] at H
            exact absurd H (by simp)
          ·
           rw [if_neg c24] at H
           exact absurd H (by simp)
         ·
          rw [if_neg c23] at H
          exact absurd H (by simp)
    ·
     rw [if_neg c14] at H
     exact absurd H (by simp)
 ·
  rw [if_neg c4] at H
  exact absurd H (by simp)
end Go.Proofs.Ytjlaijaadclghaa.F
