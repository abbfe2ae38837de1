/- Functions of the given program as plain Lean functions, and for each a proof that the program's call comes to just these answers; no further conditions. (Written by a program of this repo out of the translation.) -/
import Derived.Test.YtpdpggndhmnggaaF0g
import Derived.Test.YtpdpggndhmnggaaF12g
import Derived.Test.YtpdpggndhmnggaaF40g
import Derived.Test.YtpdpggndhmnggaaF14g
import Derived.Test.YtpdpggndhmnggaaF27g
namespace Go.Proofs.Ytpdpggndhmnggaa.F
open Go.RowKit Go.Proofs.YtpdpggndhmnggaaW.PrintWords Go.Proofs.YtpdpggndhmnggaaW.PrintLast Go.Proofs.YtpdpggndhmnggaaW.PrintMore
attribute [local go_sem high] xor_u64 xor_u32 eqErr25 neErr25 eqErrL25 neErrL25
attribute [local go_sem] max2_int min2_int max_two min_two max_three min_three max_four min_four   -- for this text's walks alone
set_option linter.unusedVariables false
set_option linter.unusedSimpArgs false
mutual
def vernierlaw17_FltBack.j0 : Nat → Int → Bool → Int → Int → Nat → Int → Bool → Option (Bool)
 | 0, _, _, _, _, _, _, _ => none
 | k + 1, x1, x5, x6, x7, x9, x11, x50 => if x50 = true then (some false) else (if x6 ≤ 32 then (vernierlaw17_FltBack.j1 k x1 x5 x6 x7 x9 x11 (x11 != x7)) else (vernierlaw17_FltBack.j1 k x1 x5 x6 x7 x9 x11 false))
def vernierlaw17_FltBack.j1 : Nat → Int → Bool → Int → Int → Nat → Int → Bool → Option (Bool)
 | 0, _, _, _, _, _, _, _ => none
 | k + 1, x1, x5, x6, x7, x9, x11, x57 => if x57 = true then (some false) else ((flt_To64.f k x6 x11).bind fun bt678 => (if bt678.2.isNone = true then (if (FloatKind.f64.format.order x9 x9 == some .eq) = true then (if (FloatKind.f64.format.order bt678.1 x9 != some .eq) = true then (vernierlaw17_FltBack.j2 k x1 x5 x6 x7 true) else (if (FloatKind.f64.format.order x9 x9 != some .eq) = true then (vernierlaw17_FltBack.j2 k x1 x5 x6 x7 (FloatKind.f64.format.order bt678.1 bt678.1 == some .eq)) else (vernierlaw17_FltBack.j2 k x1 x5 x6 x7 false))) else (if (FloatKind.f64.format.order x9 x9 != some .eq) = true then (vernierlaw17_FltBack.j2 k x1 x5 x6 x7 (FloatKind.f64.format.order bt678.1 bt678.1 == some .eq)) else (vernierlaw17_FltBack.j2 k x1 x5 x6 x7 false))) else (vernierlaw17_FltBack.j2 k x1 x5 x6 x7 true)))
def vernierlaw17_FltBack.j2 : Nat → Int → Bool → Int → Int → Bool → Option (Bool)
 | 0, _, _, _, _, _ => none
 | k + 1, x1, x5, x6, x7, x85 => if x85 = true then (some false) else (if x6 > 16 then (some x5) else ((codec_Decode.f k x6 x1).bind fun btd => (if btd.1 = 2 ∧ btd.2.2.2.2.isNone = true then ((flt_From64.f k x6 9221120237041090561).bind fun btq => (if x5 = true ∧ btq.2.isNone = true ∧ btq.1 = x7 then some true else none)) else ((flt_To32.f k x6 x1).bind fun bt681 => ((flt_From32.f k x6 bt681.1).bind fun bt683 => (if x5 = true then (if bt681.2.isNone = true then (if bt683.2.isNone = true then (some (bt683.1 == x7)) else (some false)) else (some false)) else (some false)))))))
end
def vernierlaw17_FltBack.f (k : Nat) (a0 : Int) (a1 : Int) : Option (Bool) := (vernierlaw17_shown.f k).bind fun t667 => ((vernierlaw17_width.f k a0).bind fun t668 => ((gen_Convert.f k t668 t668 a1).bind fun bt669 => ((flt_To64.f k t668 a1).bind fun bt671 => ((flt_From64.f k t668 bt671.1).bind fun bt673 => (if bt669.2.isNone = true then (if bt671.2.isNone = true then (if bt673.2.isNone = true then (vernierlaw17_FltBack.j0 k a1 t667 t668 bt669.1 bt671.1 bt673.1 false) else (vernierlaw17_FltBack.j0 k a1 t667 t668 bt669.1 bt671.1 bt673.1 true)) else (vernierlaw17_FltBack.j0 k a1 t667 t668 bt669.1 bt671.1 bt673.1 true)) else (vernierlaw17_FltBack.j0 k a1 t667 t668 bt669.1 bt671.1 bt673.1 true))))))
set_option maxHeartbeats 8000000 in
set_option maxRecDepth 100000 in
theorem vernierlaw17_FltBack.calls (k : Nat) (a0 : Int) (a1 : Int) (r : Bool) (w : World) (h : vernierlaw17_FltBack.f k a0 a1 = some r) :
  Calls Try.prog 9 #[.int .i64 a0, .int .u64 a1] w fun e w' => e = .returned (.bool r) ∧ Below w.heap.size w w' := by
 have hu25 := Try.underlying25
 have hu40 := Try.underlying40
 have HB := Aside0.mk (Below.refl w.heap.size w)
 have H : ((vernierlaw17_shown.f k).bind fun t667 => ((vernierlaw17_width.f k a0).bind fun t668 => ((gen_Convert.f k t668 t668 a1).bind fun bt669 => ((flt_To64.f k t668 a1).bind fun bt671 => ((flt_From64.f k t668 bt671.1).bind fun bt673 => (if bt669.2.isNone = true then (if bt671.2.isNone = true then (if bt673.2.isNone = true then (vernierlaw17_FltBack.j0 k a1 t667 t668 bt669.1 bt671.1 bt673.1 false) else (vernierlaw17_FltBack.j0 k a1 t667 t668 bt669.1 bt671.1 bt673.1 true)) else (vernierlaw17_FltBack.j0 k a1 t667 t668 bt669.1 bt671.1 bt673.1 true)) else (vernierlaw17_FltBack.j0 k a1 t667 t668 bt669.1 bt671.1 bt673.1 true))))))) = some r := h
 clear h
 replace H := Option.bind_eq_some_iff.mp H
 obtain ⟨t667, A30, H⟩ := H
 try dsimp -simprocs only at H
 have A3 := Aside0.mk A30
 clear A30
 replace H := Option.bind_eq_some_iff.mp H
 obtain ⟨t668, A40, H⟩ := H
 try dsimp -simprocs only at H
 have A4 := Aside0.mk A40
 clear A40
 replace H := Option.bind_eq_some_iff.mp H
 obtain ⟨⟨t669, t670⟩, A50, H⟩ := H
 try dsimp -simprocs only at H
 have A5 := Aside0.mk A50
 clear A50
 replace H := Option.bind_eq_some_iff.mp H
 obtain ⟨⟨t671, t672⟩, A60, H⟩ := H
 try dsimp -simprocs only at H
 have A6 := Aside0.mk A60
 clear A60
 replace H := Option.bind_eq_some_iff.mp H
 obtain ⟨⟨t673, t674⟩, A70, H⟩ := H
 try dsimp -simprocs only at H
 have A7 := Aside0.mk A70
 clear A70
 have HC8 := Aside0.mk H
 clear H
 go_enter Try.func9, Try.ntmps9
 go_upto_region 6 with (first | ((with_reducible refine gX_ 10 19 rfl rfl ?_); refine goesY_ (some 19) Try.func10 #[] ?_; (with_reducible refine (vernierlaw17_shown.calls k  t667 _ A3.out).mono ?_); rintro e w9 ⟨rfl, hb⟩; refine ⟨_, rfl, ?_⟩; replace HB := Aside0.mk (bS3 HB.out hb); (try clear hb); (try clear hk)) | ((with_reducible refine gX_ 26 21 rfl rfl ?_); refine goesY_ (some 21) Try.func26 #[.int .i64 a0] ?_; (with_reducible refine (vernierlaw17_width.calls k a0 t668 _ A4.out).mono ?_); rintro e w' ⟨rfl, ⟨nd, rfl⟩⟩; refine ⟨_, rfl, ?_⟩) | ((with_reducible refine gX_ 29 26 rfl rfl ?_); refine goesY_ (some 26) Try.func29 #[.int .i64 t668, .int .i64 t668, .int .u64 a1] ?_; (with_reducible refine (gen_Convert.calls k t668 t668 a1 t669 t670 _ A5.out).mono ?_); rintro e w10 ⟨rfl, hb⟩; refine ⟨_, rfl, ?_⟩; replace HB := Aside0.mk (bS3 HB.out hb); (try clear hb); (try clear hk); (try simp only [errW_none, errW_some])) | ((with_reducible refine gX_ 16 32 rfl rfl ?_); refine goesY_ (some 32) Try.func16 #[.int .i64 t668, .int .u64 a1] ?_; (with_reducible refine (flt_To64.calls k t668 a1 t671 t672 _ A6.out).mono ?_); rintro e w11 ⟨rfl, hb⟩; refine ⟨_, rfl, ?_⟩; replace HB := Aside0.mk (bS3 HB.out hb); (try clear hb); (try clear hk); (try simp only [errW_none, errW_some])) | ((with_reducible refine gX_ 11 38 rfl rfl ?_); refine goesY_ (some 38) Try.func11 #[.int .i64 t668, .float .f64 t671] ?_; (with_reducible refine (flt_From64.calls k t668 t671 t673 t674 _ A7.out).mono ?_); rintro e w12 ⟨rfl, hb⟩; refine ⟨_, rfl, ?_⟩; replace HB := Aside0.mk (bS3 HB.out hb); (try clear hb); (try clear hk); (try simp only [errW_none, errW_some])))
 (try simp only [Act.put, lS_, lZ_, lC_])
 go_cut [50] (fun v50 wc => ∃ (kq : Nat) (x50_7 : Bool), v50 = .bool x50_7 ∧ Aside0 (vernierlaw17_FltBack.j0 kq a1 t667 t668 t669 t671 t673 x50_7 = some r) ∧ Aside0 (kq ≤ k) ∧ Aside0 (Below w.heap.size w wc))
 case first =>
  have H := HC8.out
  clear HC8
  rcases t670 with _ | q675
  ·
   rw [if_pos (show (none : Option Int).isNone = true by rfl)] at H
   try simp only [Option.getD_some] at H
   try simp only [errW_none, errW_some]
   rcases t672 with _ | q676
   ·
    rw [if_pos (show (none : Option Int).isNone = true by rfl)] at H
    try simp only [Option.getD_some] at H
    try simp only [errW_none, errW_some]
    rcases t674 with _ | q677
    ·
     rw [if_pos (show (none : Option Int).isNone = true by rfl)] at H
     try simp only [Option.getD_some] at H
     try simp only [errW_none, errW_some]
     have H' := Aside0.mk H
     clear H
     go_wp2
     go_meet
     case rel => exact ⟨_, (false), (by first | rfl | (simp; done) | (simp [*]; done)), H', ⟨by first | omega | exact Nat.le_refl _⟩, ⟨bR3 HB.out⟩⟩
    ·
     rw [if_neg (show ¬ (some q677).isNone = true by simp)] at H
     try simp only [Option.getD_some] at H
     try simp only [errW_none, errW_some]
     have H' := Aside0.mk H
     clear H
     go_wp2
     go_meet
     case rel => exact ⟨_, (true), (by first | rfl | (simp; done) | (simp [*]; done)), H', ⟨by first | omega | exact Nat.le_refl _⟩, ⟨bR3 HB.out⟩⟩
   ·
    rw [if_neg (show ¬ (some q676).isNone = true by simp)] at H
    try simp only [Option.getD_some] at H
    try simp only [errW_none, errW_some]
    have H' := Aside0.mk H
    clear H
    go_wp2
    go_meet
    case rel => exact ⟨_, (true), (by first | rfl | (simp; done) | (simp [*]; done)), H', ⟨by first | omega | exact Nat.le_refl _⟩, ⟨bR3 HB.out⟩⟩
  ·
   rw [if_neg (show ¬ (some q675).isNone = true by simp)] at H
   try simp only [Option.getD_some] at H
   try simp only [errW_none, errW_some]
   have H' := Aside0.mk H
   clear H
   go_wp2
   go_meet
   case rel => exact ⟨_, (true), (by first | rfl | (simp; done) | (simp [*]; done)), H', ⟨by first | omega | exact Nat.le_refl _⟩, ⟨bR3 HB.out⟩⟩
 case rest =>
  clear HC8
  try clear c1
  try clear c2
  try clear p2
  try clear q6
  try clear c9
  try clear c10
  try clear c11
  try clear q675
  try clear q676
  try clear q677
  obtain ⟨kq, x50_7, rfl, HA, HJ7, HB⟩ := hcut
  cases kq with
  | zero => exact absurd HA.out (by simp [vernierlaw17_FltBack.j0])
  | succ kj7 =>
   have H := HA.out
   clear HA
   simp only [vernierlaw17_FltBack.j0] at H
   by_cases c13 : x50_7 = true
   ·
    subst c13
    rw [if_pos rfl] at H
    obtain rfl := Option.some.inj H
    go_wp2
    go_ret
    exact ⟨eR3, bR3 HB.out⟩
   ·
    replace c13 := Bool.eq_false_iff.mpr c13
    subst c13
    rw [if_neg (show ¬ (false = true) by decide)] at H
    have HC14 := Aside0.mk H
    clear H
    go_upto_region 8 with (fail)
    go_cut [57] (fun v57 wc => ∃ (kq : Nat) (x57_13 : Bool), v57 = .bool x57_13 ∧ Aside0 (vernierlaw17_FltBack.j1 kq a1 t667 t668 t669 t671 t673 x57_13 = some r) ∧ Aside0 (kq ≤ kj7) ∧ Aside0 (Below w.heap.size w wc))
    case first =>
     have H := HC14.out
     clear HC14
     by_cases c15 : t668 ≤ 32
     ·
      rw [if_pos c15] at H
      have c15b0 : decide (t668 ≤ 32) = true := decide_eq_true c15
      clear c15
      (first | rw [c15b0] | (simp only [i64_w, i32_w]; rw [c15b0]) | skip)
      have H' := Aside0.mk H
      clear H
      go_wp2
      go_meet
      case rel => exact ⟨_, ((t673 != t669)), (by first | rfl | (simp; done) | (simp [*]; done)), H', ⟨by have := HJ7.out; first | omega | exact Nat.le_refl _⟩, ⟨bR3 HB.out⟩⟩
     ·
      rw [if_neg c15] at H
      have c15b0 : decide (t668 ≤ 32) = false := decide_eq_false c15
      clear c15
      (first | rw [c15b0] | (simp only [i64_w, i32_w]; rw [c15b0]) | skip)
      have H' := Aside0.mk H
      clear H
      go_wp2
      go_meet
      case rel => exact ⟨_, (false), (by first | rfl | (simp; done) | (simp [*]; done)), H', ⟨by have := HJ7.out; first | omega | exact Nat.le_refl _⟩, ⟨bR3 HB.out⟩⟩
    case rest =>
     clear HC14
     try clear c1
     try clear c2
     try clear p2
     try clear q6
     try clear c9
     try clear c10
     try clear c11
     try clear c13
     try clear c15
     try clear c15b0
     try clear p2
     try clear q6
     try clear q675
     try clear q676
     try clear q677
     obtain ⟨kq, x57_13, rfl, HA, HJ13, HB⟩ := hcut
     cases kq with
     | zero => exact absurd HA.out (by simp [vernierlaw17_FltBack.j1])
     | succ kj13 =>
      have H := HA.out
      clear HA
      simp only [vernierlaw17_FltBack.j1] at H
      by_cases c16 : x57_13 = true
      ·
       subst c16
       rw [if_pos rfl] at H
       obtain rfl := Option.some.inj H
       go_wp2
       go_ret
       exact ⟨eR3, bR3 HB.out⟩
      ·
       replace c16 := Bool.eq_false_iff.mpr c16
       subst c16
       rw [if_neg (show ¬ (false = true) by decide)] at H
       replace H := Option.bind_eq_some_iff.mp H
       obtain ⟨⟨t678, t679⟩, A170, H⟩ := H
       try dsimp -simprocs only at H
       have A17 := Aside0.mk A170
       clear A170
       have HC18 := Aside0.mk H
       clear H
       go_upto_region 11 with (first | ((with_reducible refine gX_ 16 61 rfl rfl ?_); refine goesY_ (some 61) Try.func16 #[.int .i64 t668, .int .u64 t673] ?_; (with_reducible refine (flt_To64.calls kj13 t668 t673 t678 t679 _ A17.out).mono ?_); rintro e w19 ⟨rfl, hb⟩; refine ⟨_, rfl, ?_⟩; replace HB := Aside0.mk (bS3 HB.out hb); (try clear hb); (try clear hk); (try simp only [errW_none, errW_some])))
       (try simp only [Act.put, lS_, lZ_, lC_])
       go_cut [85] (fun v85 wc => ∃ (kq : Nat) (x85_17 : Bool), v85 = .bool x85_17 ∧ Aside0 (vernierlaw17_FltBack.j2 kq a1 t667 t668 t669 x85_17 = some r) ∧ Aside0 (kq ≤ kj13) ∧ Aside0 (Below w.heap.size w wc))
       case first =>
        have H := HC18.out
        clear HC18
        rcases t679 with _ | q680
        ·
         rw [if_pos (show (none : Option Int).isNone = true by rfl)] at H
         try simp only [Option.getD_some] at H
         try simp only [errW_none, errW_some]
         by_cases c20 : (FloatKind.f64.format.order t671 t671 == some .eq) = true
         ·
          rw [if_pos c20] at H
          have c20b0 : (FloatKind.f64.format.order t671 t671 == some .eq) = true := c20
          (try (have c20b1 : decide (FloatKind.f64.format.order t671 t671 = some .eq) = true := by simpa using c20))
          (try (have c20b2 : (FloatKind.f64.format.order t671 t671 == some .eq) = true := by simpa using c20))
          clear c20
          (first | rw [c20b0] | (simp only [i64_w, i32_w]; rw [c20b0]) | skip)
          by_cases c21 : (FloatKind.f64.format.order t678 t671 != some .eq) = true
          ·
           rw [if_pos c21] at H
           have c21b0 : (FloatKind.f64.format.order t678 t671 != some .eq) = true := c21
           (try (have c21b1 : decide (FloatKind.f64.format.order t678 t671 = some .eq) = false := by simpa using c21))
           (try (have c21b2 : (FloatKind.f64.format.order t678 t671 == some .eq) = false := by simpa using c21))
           (try (have c21b3 : ¬ (FloatKind.f64.format.order t678 t671 = some .eq) := by simpa using c21))
           clear c21
           have H' := Aside0.mk H
           clear H
           go_wp2
           go_meet
           case rel => exact ⟨_, (true), (by first | rfl | (simp; done) | (simp [*]; done)), H', ⟨by have := HJ7.out; have := HJ13.out; first | omega | exact Nat.le_refl _⟩, ⟨bR3 HB.out⟩⟩
          ·
           rw [if_neg c21] at H
           have c21b0 : (FloatKind.f64.format.order t678 t671 != some .eq) = false := by simpa using c21
           (try (have c21b1 : decide (FloatKind.f64.format.order t678 t671 = some .eq) = true := by simpa using c21))
           (try (have c21b2 : (FloatKind.f64.format.order t678 t671 == some .eq) = true := by simpa using c21))
           clear c21
           by_cases c22 : (FloatKind.f64.format.order t671 t671 != some .eq) = true
           ·
            rw [if_pos c22] at H
            have c22b0 : (FloatKind.f64.format.order t671 t671 != some .eq) = true := c22
            (try (have c22b1 : decide (FloatKind.f64.format.order t671 t671 = some .eq) = false := by simpa using c22))
            (try (have c22b2 : (FloatKind.f64.format.order t671 t671 == some .eq) = false := by simpa using c22))
            (try (have c22b3 : ¬ (FloatKind.f64.format.order t671 t671 = some .eq) := by simpa using c22))
            clear c22
            have H' := Aside0.mk H
            clear H
            go_wp2
            go_meet
            case rel => exact ⟨_, ((FloatKind.f64.format.order t678 t678 == some .eq)), (by first | rfl | (simp; done) | (simp [*]; done)), H', ⟨by have := HJ7.out; have := HJ13.out; first | omega | exact Nat.le_refl _⟩, ⟨bR3 HB.out⟩⟩
           ·
            rw [if_neg c22] at H
            have c22b0 : (FloatKind.f64.format.order t671 t671 != some .eq) = false := by simpa using c22
            (try (have c22b1 : decide (FloatKind.f64.format.order t671 t671 = some .eq) = true := by simpa using c22))
            (try (have c22b2 : (FloatKind.f64.format.order t671 t671 == some .eq) = true := by simpa using c22))
            clear c22
            have H' := Aside0.mk H
            clear H
            go_wp2
            go_meet
            case rel => exact ⟨_, (false), (by first | rfl | (simp; done) | (simp [*]; done)), H', ⟨by have := HJ7.out; have := HJ13.out; first | omega | exact Nat.le_refl _⟩, ⟨bR3 HB.out⟩⟩
         ·
          rw [if_neg c20] at H
          have c20b0 : (FloatKind.f64.format.order t671 t671 == some .eq) = false := by simpa using c20
          (try (have c20b1 : decide (FloatKind.f64.format.order t671 t671 = some .eq) = false := by simpa using c20))
          (try (have c20b2 : (FloatKind.f64.format.order t671 t671 == some .eq) = false := by simpa using c20))
          (try (have c20b3 : ¬ (FloatKind.f64.format.order t671 t671 = some .eq) := by simpa using c20))
          clear c20
          (first | rw [c20b0] | (simp only [i64_w, i32_w]; rw [c20b0]) | skip)
          by_cases c23 : (FloatKind.f64.format.order t671 t671 != some .eq) = true
          ·
           rw [if_pos c23] at H
           have c23b0 : (FloatKind.f64.format.order t671 t671 != some .eq) = true := c23
           (try (have c23b1 : decide (FloatKind.f64.format.order t671 t671 = some .eq) = false := by simpa using c23))
           (try (have c23b2 : (FloatKind.f64.format.order t671 t671 == some .eq) = false := by simpa using c23))
           (try (have c23b3 : ¬ (FloatKind.f64.format.order t671 t671 = some .eq) := by simpa using c23))
           clear c23
           have H' := Aside0.mk H
           clear H
           go_wp2
           go_meet
           case rel => exact ⟨_, ((FloatKind.f64.format.order t678 t678 == some .eq)), (by first | rfl | (simp; done) | (simp [*]; done)), H', ⟨by have := HJ7.out; have := HJ13.out; first | omega | exact Nat.le_refl _⟩, ⟨bR3 HB.out⟩⟩
          ·
           rw [if_neg c23] at H
           have c23b0 : (FloatKind.f64.format.order t671 t671 != some .eq) = false := by simpa using c23
           (try (have c23b1 : decide (FloatKind.f64.format.order t671 t671 = some .eq) = true := by simpa using c23))
           (try (have c23b2 : (FloatKind.f64.format.order t671 t671 == some .eq) = true := by simpa using c23))
           clear c23
           have H' := Aside0.mk H
           clear H
           go_wp2
           go_meet
           case rel => exact ⟨_, (false), (by first | rfl | (simp; done) | (simp [*]; done)), H', ⟨by have := HJ7.out; have := HJ13.out; first | omega | exact Nat.le_refl _⟩, ⟨bR3 HB.out⟩⟩
        ·
         rw [if_neg (show ¬ (some q680).isNone = true by simp)] at H
         try simp only [Option.getD_some] at H
         try simp only [errW_none, errW_some]
         have H' := Aside0.mk H
         clear H
         go_wp2
         go_meet
         case rel => exact ⟨_, (true), (by first | rfl | (simp; done) | (simp [*]; done)), H', ⟨by have := HJ7.out; have := HJ13.out; first | omega | exact Nat.le_refl _⟩, ⟨bR3 HB.out⟩⟩
       case rest =>
        clear HC18
        try clear c1
        try clear c2
        try clear p2
        try clear q6
        try clear c9
        try clear c10
        try clear c11
        try clear c13
        try clear c15
        try clear c15b0
        try clear c16
        try clear c20
        try clear c20b0
        try clear c20b1
        try clear c20b2
        try clear c21
        try clear c21b0
        try clear c21b1
        try clear c21b2
        try clear c22
        try clear c22b0
        try clear c22b1
        try clear c22b2
        try clear c23
        try clear c23b0
        try clear c23b1
        try clear c23b2
        try clear p2
        try clear q6
        try clear q675
        try clear q676
        try clear q677
        try clear q680
        obtain ⟨kq, x85_17, rfl, HA, HJ17, HB⟩ := hcut
        cases kq with
        | zero => exact absurd HA.out (by simp [vernierlaw17_FltBack.j2])
        | succ kj17 =>
         have H := HA.out
         clear HA
         simp only [vernierlaw17_FltBack.j2] at H
         by_cases c24 : x85_17 = true
         ·
          subst c24
          rw [if_pos rfl] at H
          obtain rfl := Option.some.inj H
          go_wp2
          go_ret
          exact ⟨eR3, bR3 HB.out⟩
         ·
          replace c24 := Bool.eq_false_iff.mpr c24
          subst c24
          rw [if_neg (show ¬ (false = true) by decide)] at H
          by_cases c25 : t668 > 16
          ·
           rw [if_pos c25] at H
           have c25b0 : decide (16 < t668) = true := decide_eq_true c25
           clear c25
           obtain rfl := Option.some.inj H
           go_wp2
           go_ret
           exact ⟨eR3, bR3 HB.out⟩
          ·
           rw [if_neg c25] at H
           have c25b0 : decide (16 < t668) = false := decide_eq_false c25
           clear c25
           obtain ⟨⟨x0, x1, x2, x3, x4⟩, h0, HN⟩ := Option.bind_eq_some_iff.mp H
           clear H
           by_cases cN : x0 = 2 ∧ x4.isNone = true
           ·
            rw [if_pos cN] at HN
            obtain ⟨rfl, cN2⟩ := cN
            obtain rfl := Option.isNone_iff_eq_none.mp cN2
            obtain ⟨⟨y0, y1⟩, h1, HM⟩ := Option.bind_eq_some_iff.mp HN
            clear HN
            by_cases cM : t667 = true ∧ y1.isNone = true ∧ y0 = t669
            ·
             rw [if_pos cM] at HM
             obtain ⟨rfl, cM2, rfl⟩ := cM
             obtain rfl := Option.isNone_iff_eq_none.mp cM2
             obtain rfl := Option.some.inj HM
             have AN := Aside0.mk h0
             have AM : Aside0 (∀ v : Nat, 2139095040 < v % 2147483648 → flt_From32N.f kj17 t668 v = some (y0, none)) := Aside0.mk (fun v hv => (by
              unfold flt_From32N.f
              rw [if_pos (nanB_of32 hv), h1]; rfl))
             clear h0 h1 cN2 cM2 HM
             go_wp2_with (first | ((with_reducible refine gX_ 24 92 rfl rfl ?_); refine goesY_ (some 92) Try.func24 #[.int .i64 t668, .int .u64 a1] ?_; (with_reducible refine (flt_To32N.calls kj17 t668 a1 x1 x2 x3 _ AN.out).mono ?_); rintro e wN1 ⟨⟨v, hv, rfl⟩, hb⟩; refine ⟨_, rfl, ?_⟩; have AV := Aside0.mk hv; clear hv; replace HB := Aside0.mk (bS3 HB.out hb); (try clear hb); (try clear hk); (try simp only [errW_none, errW_some])) | ((with_reducible refine gX_ 21 98 rfl rfl ?_); refine goesY_ (some 98) Try.func21 #[.int .i64 t668, .float .f32 v] ?_; (with_reducible refine (flt_From32N.calls kj17 t668 v y0 none _ (AM.out v AV.out)).mono ?_); rintro e wN2 ⟨rfl, hb⟩; refine ⟨_, rfl, ?_⟩; replace HB := Aside0.mk (bS3 HB.out hb); (try clear hb); (try clear hk); (try simp only [errW_none, errW_some])))
             go_ret
             exact ⟨eR3, bR3 HB.out⟩
            ·
             rw [if_neg cM] at HM; cases HM
           ·
            rw [if_neg cN] at HN
            have H := HN
            clear cN h0 HN
            replace H := Option.bind_eq_some_iff.mp H
            obtain ⟨⟨t681, t682⟩, A260, H⟩ := H
            try dsimp -simprocs only at H
            have A26 := Aside0.mk A260
            clear A260
            replace H := Option.bind_eq_some_iff.mp H
            obtain ⟨⟨t683, t684⟩, A270, H⟩ := H
            try dsimp -simprocs only at H
            have A27 := Aside0.mk A270
            clear A270
            by_cases c28 : t667 = true
            ·
             subst c28
             rw [if_pos rfl] at H
             rcases t682 with _ | q685
             ·
              rw [if_pos (show (none : Option Int).isNone = true by rfl)] at H
              try simp only [Option.getD_some] at H
              try simp only [errW_none, errW_some]
              rcases t684 with _ | q686
              ·
               rw [if_pos (show (none : Option Int).isNone = true by rfl)] at H
               try simp only [Option.getD_some] at H
               try simp only [errW_none, errW_some]
               obtain rfl := Option.some.inj H
               go_wp2_with (first | ((with_reducible refine gX_ 24 92 rfl rfl ?_); refine goesY_ (some 92) Try.func24 #[.int .i64 t668, .int .u64 a1] ?_; (with_reducible refine (flt_To32.calls kj17 t668 a1 t681 none _ A26.out).mono ?_); rintro e w29 ⟨rfl, hb⟩; refine ⟨_, rfl, ?_⟩; replace HB := Aside0.mk (bS3 HB.out hb); (try clear hb); (try clear hk); (try simp only [errW_none, errW_some])) | ((with_reducible refine gX_ 21 98 rfl rfl ?_); refine goesY_ (some 98) Try.func21 #[.int .i64 t668, .float .f32 t681] ?_; (with_reducible refine (flt_From32.calls kj17 t668 t681 t683 none _ A27.out).mono ?_); rintro e w30 ⟨rfl, hb⟩; refine ⟨_, rfl, ?_⟩; replace HB := Aside0.mk (bS3 HB.out hb); (try clear hb); (try clear hk); (try simp only [errW_none, errW_some])))
               go_ret
               exact ⟨eR3, bR3 HB.out⟩
              ·
               rw [if_neg (show ¬ (some q686).isNone = true by simp)] at H
               try simp only [Option.getD_some] at H
               try simp only [errW_none, errW_some]
               obtain rfl := Option.some.inj H
               go_wp2_with (first | ((with_reducible refine gX_ 24 92 rfl rfl ?_); refine goesY_ (some 92) Try.func24 #[.int .i64 t668, .int .u64 a1] ?_; (with_reducible refine (flt_To32.calls kj17 t668 a1 t681 none _ A26.out).mono ?_); rintro e w31 ⟨rfl, hb⟩; refine ⟨_, rfl, ?_⟩; replace HB := Aside0.mk (bS3 HB.out hb); (try clear hb); (try clear hk); (try simp only [errW_none, errW_some])) | ((with_reducible refine gX_ 21 98 rfl rfl ?_); refine goesY_ (some 98) Try.func21 #[.int .i64 t668, .float .f32 t681] ?_; (with_reducible refine (flt_From32.calls kj17 t668 t681 t683 (some q686) _ A27.out).mono ?_); rintro e w32 ⟨rfl, hb⟩; refine ⟨_, rfl, ?_⟩; replace HB := Aside0.mk (bS3 HB.out hb); (try clear hb); (try clear hk); (try simp only [errW_none, errW_some])))
               go_ret
               exact ⟨eR3, bR3 HB.out⟩
             ·
              rw [if_neg (show ¬ (some q685).isNone = true by simp)] at H
              try simp only [Option.getD_some] at H
              try simp only [errW_none, errW_some]
              obtain rfl := Option.some.inj H
              go_wp2_with (first | ((with_reducible refine gX_ 24 92 rfl rfl ?_); refine goesY_ (some 92) Try.func24 #[.int .i64 t668, .int .u64 a1] ?_; (with_reducible refine (flt_To32.calls kj17 t668 a1 t681 (some q685) _ A26.out).mono ?_); rintro e w33 ⟨rfl, hb⟩; refine ⟨_, rfl, ?_⟩; replace HB := Aside0.mk (bS3 HB.out hb); (try clear hb); (try clear hk); (try simp only [errW_none, errW_some])) | ((with_reducible refine gX_ 21 98 rfl rfl ?_); refine goesY_ (some 98) Try.func21 #[.int .i64 t668, .float .f32 t681] ?_; (with_reducible refine (flt_From32.calls kj17 t668 t681 t683 t684 _ A27.out).mono ?_); rintro e w34 ⟨rfl, hb⟩; refine ⟨_, rfl, ?_⟩; replace HB := Aside0.mk (bS3 HB.out hb); (try clear hb); (try clear hk); (try simp only [errW_none, errW_some])))
              go_ret
              exact ⟨eR3, bR3 HB.out⟩
            ·
             replace c28 := Bool.eq_false_iff.mpr c28
             subst c28
             rw [if_neg (show ¬ (false = true) by decide)] at H
             obtain rfl := Option.some.inj H
             go_wp2_with (first | ((with_reducible refine gX_ 24 92 rfl rfl ?_); refine goesY_ (some 92) Try.func24 #[.int .i64 t668, .int .u64 a1] ?_; (with_reducible refine (flt_To32.calls kj17 t668 a1 t681 t682 _ A26.out).mono ?_); rintro e w35 ⟨rfl, hb⟩; refine ⟨_, rfl, ?_⟩; replace HB := Aside0.mk (bS3 HB.out hb); (try clear hb); (try clear hk); (try simp only [errW_none, errW_some])) | ((with_reducible refine gX_ 21 98 rfl rfl ?_); refine goesY_ (some 98) Try.func21 #[.int .i64 t668, .float .f32 t681] ?_; (with_reducible refine (flt_From32.calls kj17 t668 t681 t683 t684 _ A27.out).mono ?_); rintro e w36 ⟨rfl, hb⟩; refine ⟨_, rfl, ?_⟩; replace HB := Aside0.mk (bS3 HB.out hb); (try clear hb); (try clear hk); (try simp only [errW_none, errW_some])))
             go_ret
             exact ⟨eR3, bR3 HB.out⟩
/-- THE ONE PURE STATEMENT of vernierlaw17_FltBack: yours. -/
def vernierlaw17_FltBack.Pure : Prop := ∀ (a0 : Int) (a1 : Int), (Lit.int .i64 a0).wf = true → (Lit.int .u64 a1).wf = true → ∃ k, vernierlaw17_FltBack.f k a0 a1 = some true
theorem vernierlaw17_FltBack.walk (P : vernierlaw17_FltBack.Pure) (a0 : Int) (a1 : Int) (w : World) (w0 : (Lit.int .i64 a0).wf = true) (w1 : (Lit.int .u64 a1).wf = true) :
  Calls Try.prog 9 #[.int .i64 a0, .int .u64 a1] w fun e w' => e = .returned (.bool true) ∧ Below w.heap.size w w' := by
 obtain ⟨k, h⟩ := P a0 a1 w0 w1
 refine (vernierlaw17_FltBack.calls k a0 a1 true w h).mono ?_
 rintro e w' ⟨rfl, hd⟩
 exact ⟨rfl, hd⟩
end Go.Proofs.Ytpdpggndhmnggaa.F
