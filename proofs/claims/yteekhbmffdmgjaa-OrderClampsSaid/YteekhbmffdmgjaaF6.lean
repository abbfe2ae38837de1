/- Functions of the given program as plain Lean functions, and for each a proof that the program's call comes to just these answers; no further conditions. (Written by a program of this repo out of the translation.) -/
import Derived.Test.YteekhbmffdmgjaaF0
import Derived.Test.YteekhbmffdmgjaaF4
namespace Go.Proofs.Yteekhbmffdmgjaa.F
open Go.RowKit Go.Proofs.YteekhbmffdmgjaaW.PrintWords Go.Proofs.YteekhbmffdmgjaaW.PrintLast Go.Proofs.YteekhbmffdmgjaaW.PrintMore
attribute [local go_sem high] xor_u64 xor_u32 eqErr25 neErr25 eqErrL25 neErrL25
attribute [local go_sem] max2_int min2_int max_two min_two max_three min_three max_four min_four   -- for this text's walks alone
set_option linter.unusedVariables false
set_option linter.unusedSimpArgs false

/-! ### order_Cmp: function 18 -/
def order_Cmp.f (a0 : Int) (a1 : Int) (a2 : Int) : Option (Int × Option Int) := (shape_Rank.f a0 a1).bind fun bt104 => (if bt104.2.isNone = true then ((shape_Rank.f a0 a2).bind fun bt107 => (if bt104.1 < bt107.1 then (some ((-1), bt107.2)) else (if bt104.1 > bt107.1 then (some (1, bt107.2)) else (some (0, bt107.2))))) else (some (0, some (bt104.2.getD 0))))
set_option maxHeartbeats 8000000 in
set_option maxRecDepth 100000 in
theorem order_Cmp.calls (a0 : Int) (a1 : Int) (a2 : Int) (r1 : Int) (r2 : Option Int) (w : World) (h : order_Cmp.f a0 a1 a2 = some (r1, r2)) :
    Calls Try.prog 18 #[.int .i64 a0, .int .u64 a1, .int .u64 a2] w fun e w' => e = .returned (.tuple #[.int .i64 r1, errW r2]) ∧ Drawn0 w w' := by
  have hu25 := Try.underlying25
  have hu33 := Try.underlying33
  have H : ((shape_Rank.f a0 a1).bind fun bt104 => (if bt104.2.isNone = true then ((shape_Rank.f a0 a2).bind fun bt107 => (if bt104.1 < bt107.1 then (some ((-1), bt107.2)) else (if bt104.1 > bt107.1 then (some (1, bt107.2)) else (some (0, bt107.2))))) else (some (0, some (bt104.2.getD 0))))) = some (r1, r2) := h
  clear h
  replace H := Option.bind_eq_some_iff.mp H
  obtain ⟨⟨t104, t105⟩, A40, H⟩ := H
  replace H : (if t105.isNone = true then ((shape_Rank.f a0 a2).bind fun bt107 => (if t104 < bt107.1 then (some ((-1), bt107.2)) else (if t104 > bt107.1 then (some (1, bt107.2)) else (some (0, bt107.2))))) else (some (0, some (t105.getD 0)))) = some (r1, r2) := H
  have A4 := Aside0.mk A40
  clear A40
  rcases t105 with _ | q106
  · have H1 : ((shape_Rank.f a0 a2).bind fun bt107 => (if t104 < bt107.1 then (some ((-1), bt107.2)) else (if t104 > bt107.1 then (some (1, bt107.2)) else (some (0, bt107.2))))) = some (r1, r2) := by rw [if_pos (show (none : Option Int).isNone = true by rfl)] at H; exact H
    clear H
    have H := H1
    clear H1
    try simp only [errW_none, errW_some]
    replace H := Option.bind_eq_some_iff.mp H
    obtain ⟨⟨t107, t108⟩, A50, H⟩ := H
    replace H : (if t104 < t107 then (some ((-1), t108)) else (if t104 > t107 then (some (1, t108)) else (some (0, t108)))) = some (r1, r2) := H
    have A5 := Aside0.mk A50
    clear A50
    by_cases c6 : t104 < t107
    · rw [if_pos c6] at H
      have c6b0 : decide (t104 < t107) = true := decide_eq_true c6
      clear c6
      simp only [Option.some.injEq, Prod.mk.injEq] at H
      obtain ⟨rfl, rfl⟩ := H
      go_enter Try.func18, Try.ntmps18
      go_wp2_with (first | ((with_reducible refine gC (f := 56) rfl ?_); refine goesY_ (some 14) Try.func56 #[.int .i64 a0, .int .u64 a1] ?_; (with_reducible refine (shape_Rank.calls a0 a1 t104 none _ A4.out).mono ?_); rintro e w' ⟨rfl, ⟨nd, rfl⟩⟩; refine ⟨_, rfl, ?_⟩; (try simp only [errW_none, errW_some])) | ((with_reducible refine gC (f := 56) rfl ?_); refine goesY_ (some 23) Try.func56 #[.int .i64 a0, .int .u64 a2] ?_; (with_reducible refine (shape_Rank.calls a0 a2 t107 t108 _ A5.out).mono ?_); rintro e w' ⟨rfl, ⟨nd, rfl⟩⟩; refine ⟨_, rfl, ?_⟩; (try simp only [errW_none, errW_some])))
      go_ret2
      exact ⟨by first | rfl | (simp; done) | (simp [*]; done), by repeat (first | exact Drawn0.refl _ | apply Drawn0.step)⟩
    · rw [if_neg c6] at H
      have c6b0 : decide (t104 < t107) = false := decide_eq_false c6
      clear c6
      by_cases c7 : t104 > t107
      · rw [if_pos c7] at H
        have c7b0 : decide (t107 < t104) = true := decide_eq_true c7
        clear c7
        simp only [Option.some.injEq, Prod.mk.injEq] at H
        obtain ⟨rfl, rfl⟩ := H
        go_enter Try.func18, Try.ntmps18
        go_wp2_with (first | ((with_reducible refine gC (f := 56) rfl ?_); refine goesY_ (some 14) Try.func56 #[.int .i64 a0, .int .u64 a1] ?_; (with_reducible refine (shape_Rank.calls a0 a1 t104 none _ A4.out).mono ?_); rintro e w' ⟨rfl, ⟨nd, rfl⟩⟩; refine ⟨_, rfl, ?_⟩; (try simp only [errW_none, errW_some])) | ((with_reducible refine gC (f := 56) rfl ?_); refine goesY_ (some 23) Try.func56 #[.int .i64 a0, .int .u64 a2] ?_; (with_reducible refine (shape_Rank.calls a0 a2 t107 t108 _ A5.out).mono ?_); rintro e w' ⟨rfl, ⟨nd, rfl⟩⟩; refine ⟨_, rfl, ?_⟩; (try simp only [errW_none, errW_some])))
        go_ret2
        exact ⟨by first | rfl | (simp; done) | (simp [*]; done), by repeat (first | exact Drawn0.refl _ | apply Drawn0.step)⟩
      · rw [if_neg c7] at H
        have c7b0 : decide (t107 < t104) = false := decide_eq_false c7
        clear c7
        simp only [Option.some.injEq, Prod.mk.injEq] at H
        obtain ⟨rfl, rfl⟩ := H
        go_enter Try.func18, Try.ntmps18
        go_wp2_with (first | ((with_reducible refine gC (f := 56) rfl ?_); refine goesY_ (some 14) Try.func56 #[.int .i64 a0, .int .u64 a1] ?_; (with_reducible refine (shape_Rank.calls a0 a1 t104 none _ A4.out).mono ?_); rintro e w' ⟨rfl, ⟨nd, rfl⟩⟩; refine ⟨_, rfl, ?_⟩; (try simp only [errW_none, errW_some])) | ((with_reducible refine gC (f := 56) rfl ?_); refine goesY_ (some 23) Try.func56 #[.int .i64 a0, .int .u64 a2] ?_; (with_reducible refine (shape_Rank.calls a0 a2 t107 t108 _ A5.out).mono ?_); rintro e w' ⟨rfl, ⟨nd, rfl⟩⟩; refine ⟨_, rfl, ?_⟩; (try simp only [errW_none, errW_some])))
        go_ret2
        exact ⟨by first | rfl | (simp; done) | (simp [*]; done), by repeat (first | exact Drawn0.refl _ | apply Drawn0.step)⟩
  · have H1 : (some (0, some q106)) = some (r1, r2) := by rw [if_neg (show ¬ (some q106).isNone = true by simp)] at H; exact H
    clear H
    have H := H1
    clear H1
    try simp only [errW_none, errW_some]
    simp only [Option.some.injEq, Prod.mk.injEq] at H
    obtain ⟨rfl, rfl⟩ := H
    go_enter Try.func18, Try.ntmps18
    go_wp2_with (first | ((with_reducible refine gC (f := 56) rfl ?_); refine goesY_ (some 14) Try.func56 #[.int .i64 a0, .int .u64 a1] ?_; (with_reducible refine (shape_Rank.calls a0 a1 t104 (some q106) _ A4.out).mono ?_); rintro e w' ⟨rfl, ⟨nd, rfl⟩⟩; refine ⟨_, rfl, ?_⟩; (try simp only [errW_none, errW_some])))
    go_ret2
    exact ⟨by first | rfl | (simp; done) | (simp [*]; done), by repeat (first | exact Drawn0.refl _ | apply Drawn0.step)⟩

/-! ### order_Neg: function 23 -/
def order_Neg.f (a0 : Int) (a1 : Int) : Option (Int × Option Int) := (shape_Fold.f a0 (IntKind.u64.wrap (-a1))).bind fun bt113 => (some (bt113.1, bt113.2))
set_option maxHeartbeats 8000000 in
set_option maxRecDepth 100000 in
theorem order_Neg.calls (a0 : Int) (a1 : Int) (r1 : Int) (r2 : Option Int) (w : World) (h : order_Neg.f a0 a1 = some (r1, r2)) :
    Calls Try.prog 23 #[.int .i64 a0, .int .u64 a1] w fun e w' => e = .returned (.tuple #[.int .u64 r1, errW r2]) ∧ Drawn0 w w' := by
  have H : ((shape_Fold.f a0 (IntKind.u64.wrap (-a1))).bind fun bt113 => (some (bt113.1, bt113.2))) = some (r1, r2) := h
  clear h
  replace H := Option.bind_eq_some_iff.mp H
  obtain ⟨⟨t113, t114⟩, A30, H⟩ := H
  replace H : (some (t113, t114)) = some (r1, r2) := H
  have A3 := Aside0.mk A30
  clear A30
  simp only [Option.some.injEq, Prod.mk.injEq] at H
  obtain ⟨rfl, rfl⟩ := H
  go_enter Try.func23, Try.ntmps23
  go_wp2_with (first | ((with_reducible refine gC (f := 60) rfl ?_); refine goesY_ (some 9) Try.func60 #[.int .i64 a0, .int .u64 (IntKind.u64.wrap (-a1))] ?_; (with_reducible refine (shape_Fold.calls a0 (IntKind.u64.wrap (-a1)) t113 t114 _ A3.out).mono ?_); rintro e w' ⟨rfl, ⟨nd, rfl⟩⟩; refine ⟨_, rfl, ?_⟩; (try simp only [errW_none, errW_some])))
  go_ret2
  exact ⟨by first | rfl | (simp; done) | (simp [*]; done), by repeat (first | exact Drawn0.refl _ | apply Drawn0.step)⟩

/-! ### order_Next: function 26 -/
def order_Next.f (a0 : Int) (a1 : Int) : Option (Int × Option Int) := (shape_Of.f a0).bind fun bt117 => (if bt117.2.2.2.2.2.isNone = true then ((shape_Fold.f a0 a1).bind fun bt125 => (if bt125.1 = bt117.2.2.2.1 then ((shape_Fold.f a0 bt125.1).bind fun bt127 => (some (bt127.1, bt127.2))) else (if bt125.1 = bt117.2.1 then ((shape_Fold.f a0 bt125.1).bind fun bt129 => (some (bt129.1, bt129.2))) else ((shape_Fold.f a0 (IntKind.u64.wrap (bt125.1 + 1))).bind fun bt131 => (some (bt131.1, bt131.2)))))) else (some (0, some (bt117.2.2.2.2.2.getD 0))))
set_option maxHeartbeats 8000000 in
set_option maxRecDepth 100000 in
theorem order_Next.calls (a0 : Int) (a1 : Int) (r1 : Int) (r2 : Option Int) (w : World) (h : order_Next.f a0 a1 = some (r1, r2)) :
    Calls Try.prog 26 #[.int .i64 a0, .int .u64 a1] w fun e w' => e = .returned (.tuple #[.int .u64 r1, errW r2]) ∧ Below w.heap.size w w' := by
  have hu88 := Try.underlying88
  have hu25 := Try.underlying25
  have hu33 := Try.underlying33
  have HB := Aside0.mk (Below.refl w.heap.size w)
  have H : ((shape_Of.f a0).bind fun bt117 => (if bt117.2.2.2.2.2.isNone = true then ((shape_Fold.f a0 a1).bind fun bt125 => (if bt125.1 = bt117.2.2.2.1 then ((shape_Fold.f a0 bt125.1).bind fun bt127 => (some (bt127.1, bt127.2))) else (if bt125.1 = bt117.2.1 then ((shape_Fold.f a0 bt125.1).bind fun bt129 => (some (bt129.1, bt129.2))) else ((shape_Fold.f a0 (IntKind.u64.wrap (bt125.1 + 1))).bind fun bt131 => (some (bt131.1, bt131.2)))))) else (some (0, some (bt117.2.2.2.2.2.getD 0))))) = some (r1, r2) := h
  clear h
  replace H := Option.bind_eq_some_iff.mp H
  obtain ⟨⟨t117, t118, t119, t120, t121, t122⟩, A30, H⟩ := H
  replace H : (if t122.isNone = true then ((shape_Fold.f a0 a1).bind fun bt125 => (if bt125.1 = t120 then ((shape_Fold.f a0 bt125.1).bind fun bt127 => (some (bt127.1, bt127.2))) else (if bt125.1 = t118 then ((shape_Fold.f a0 bt125.1).bind fun bt129 => (some (bt129.1, bt129.2))) else ((shape_Fold.f a0 (IntKind.u64.wrap (bt125.1 + 1))).bind fun bt131 => (some (bt131.1, bt131.2)))))) else (some (0, some (t122.getD 0)))) = some (r1, r2) := H
  have A3 := Aside0.mk A30
  clear A30
  rcases t122 with _ | q124
  · have H1 : ((shape_Fold.f a0 a1).bind fun bt125 => (if bt125.1 = t120 then ((shape_Fold.f a0 bt125.1).bind fun bt127 => (some (bt127.1, bt127.2))) else (if bt125.1 = t118 then ((shape_Fold.f a0 bt125.1).bind fun bt129 => (some (bt129.1, bt129.2))) else ((shape_Fold.f a0 (IntKind.u64.wrap (bt125.1 + 1))).bind fun bt131 => (some (bt131.1, bt131.2)))))) = some (r1, r2) := by rw [if_pos (show (none : Option Int).isNone = true by rfl)] at H; exact H
    clear H
    have H := H1
    clear H1
    try simp only [errW_none, errW_some]
    replace H := Option.bind_eq_some_iff.mp H
    obtain ⟨⟨t125, t126⟩, A40, H⟩ := H
    replace H : (if t125 = t120 then ((shape_Fold.f a0 t125).bind fun bt127 => (some (bt127.1, bt127.2))) else (if t125 = t118 then ((shape_Fold.f a0 t125).bind fun bt129 => (some (bt129.1, bt129.2))) else ((shape_Fold.f a0 (IntKind.u64.wrap (t125 + 1))).bind fun bt131 => (some (bt131.1, bt131.2))))) = some (r1, r2) := H
    have A4 := Aside0.mk A40
    clear A40
    by_cases c5 : t125 = t120
    · rw [if_pos c5] at H
      have c5b0 : (t125 == t120) = true := beq_iff_eq.mpr c5
      have c5b1 : (t125 != t120) = false := bne_eq_false_iff_eq.mpr c5
      clear c5
      replace H := Option.bind_eq_some_iff.mp H
      obtain ⟨⟨t127, t128⟩, A60, H⟩ := H
      replace H : (some (t127, t128)) = some (r1, r2) := H
      have A6 := Aside0.mk A60
      clear A60
      simp only [Option.some.injEq, Prod.mk.injEq] at H
      obtain ⟨rfl, rfl⟩ := H
      go_enter Try.func26, Try.ntmps26
      go_wp2_with (first | ((with_reducible refine gC (f := 63) rfl ?_); refine goesY_ (some 10) Try.func63 #[.int .i64 a0] ?_; (with_reducible refine (shape_Of.calls a0 t117 t118 t119 t120 t121 none _ A3.out).mono ?_); rintro e w7 ⟨rfl, hb⟩; refine ⟨_, rfl, ?_⟩; have n0_ := Aside0.mk (bS3 HB.out hb); clear HB; have HB := n0_; clear n0_; (try clear hb); (try clear hb2); (try clear hk); (try clear hi); (try simp only [errW_none, errW_some])) | ((with_reducible refine gD (N := 6) rfl ?_); refine bE3 6 #[.int .i64 0, .int .u64 0, .int .u64 0, .int .u64 0, .int .i64 0] 88 ?hr ?_; (case hr => first | (go_simp; done) | (go_simp; rfl)); intro gb123 hg w8 hbox hb; have n0_ := Aside0.mk (bS3 HB.out hb); have n1_ := Aside0.mk (hbox); have n2_ := Aside0.mk ((bZ3 hg HB.out)); have n3_ := Aside0.mk ((bZ3 hg HB.out)); clear HB; have HB := n0_; have BK123 := n1_; have GW123 := n2_; have GE123 := n3_; clear n0_ n1_ n2_ n3_; clear hb hbox hg; have hcz9_0 : w8.cell? ⟨gb123, 0, none⟩ = some (.int .i64 0) := (blk_cell BK123.out 0).trans rfl; have hcz9_1 : w8.cell? ⟨gb123, 1, none⟩ = some (.int .u64 0) := (blk_cell BK123.out 1).trans rfl; have hcz9_2 : w8.cell? ⟨gb123, 2, none⟩ = some (.int .u64 0) := (blk_cell BK123.out 2).trans rfl; have hcz9_3 : w8.cell? ⟨gb123, 3, none⟩ = some (.int .u64 0) := (blk_cell BK123.out 3).trans rfl; have hcz9_4 : w8.cell? ⟨gb123, 4, none⟩ = some (.int .i64 0) := (blk_cell BK123.out 4).trans rfl; have hfz9_0 := blk_frozen BK123.out 0; have hfz9_1 := blk_frozen BK123.out 1; have hfz9_2 := blk_frozen BK123.out 2; have hfz9_3 := blk_frozen BK123.out 3; have hfz9_4 := blk_frozen BK123.out 4) | ((with_reducible refine gC (f := 60) rfl ?_); refine goesY_ (some 19) Try.func60 #[.int .i64 a0, .int .u64 a1] ?_; (with_reducible refine (shape_Fold.calls a0 a1 t125 t126 _ A4.out).mono ?_); rintro e w' ⟨rfl, ⟨nd, rfl⟩⟩; refine ⟨_, rfl, ?_⟩; (try simp only [errW_none, errW_some])) | ((with_reducible refine gC (f := 60) rfl ?_); refine goesY_ (some 36) Try.func60 #[.int .i64 a0, .int .u64 t125] ?_; (with_reducible refine (shape_Fold.calls a0 t125 t127 t128 _ A6.out).mono ?_); rintro e w' ⟨rfl, ⟨nd, rfl⟩⟩; refine ⟨_, rfl, ?_⟩; (try simp only [errW_none, errW_some])))
      go_ret2
      exact ⟨by first | rfl | (simp [errW_none, errW_some] <;> rfl) | (simp [*, errW_none, errW_some] <;> rfl), by repeat (first | (with_reducible first | exact HB.out | apply pA | apply pN | apply p1 | refine pS ?_ GE123.out) | exact HB.out)⟩
    · rw [if_neg c5] at H
      have c5b0 : (t125 == t120) = false := beq_eq_false_iff_ne.mpr c5
      have c5b1 : (t125 != t120) = true := bne_iff_ne.mpr c5
      by_cases c10 : t125 = t118
      · rw [if_pos c10] at H
        have c10b0 : (t125 == t118) = true := beq_iff_eq.mpr c10
        have c10b1 : (t125 != t118) = false := bne_eq_false_iff_eq.mpr c10
        clear c10
        replace H := Option.bind_eq_some_iff.mp H
        obtain ⟨⟨t129, t130⟩, A110, H⟩ := H
        replace H : (some (t129, t130)) = some (r1, r2) := H
        have A11 := Aside0.mk A110
        clear A110
        simp only [Option.some.injEq, Prod.mk.injEq] at H
        obtain ⟨rfl, rfl⟩ := H
        go_enter Try.func26, Try.ntmps26
        go_wp2_with (first | ((with_reducible refine gC (f := 63) rfl ?_); refine goesY_ (some 10) Try.func63 #[.int .i64 a0] ?_; (with_reducible refine (shape_Of.calls a0 t117 t118 t119 t120 t121 none _ A3.out).mono ?_); rintro e w12 ⟨rfl, hb⟩; refine ⟨_, rfl, ?_⟩; have n0_ := Aside0.mk (bS3 HB.out hb); clear HB; have HB := n0_; clear n0_; (try clear hb); (try clear hb2); (try clear hk); (try clear hi); (try simp only [errW_none, errW_some])) | ((with_reducible refine gD (N := 6) rfl ?_); refine bE3 6 #[.int .i64 0, .int .u64 0, .int .u64 0, .int .u64 0, .int .i64 0] 88 ?hr ?_; (case hr => first | (go_simp; done) | (go_simp; rfl)); intro gb123 hg w13 hbox hb; have n0_ := Aside0.mk (bS3 HB.out hb); have n1_ := Aside0.mk (hbox); have n2_ := Aside0.mk ((bZ3 hg HB.out)); have n3_ := Aside0.mk ((bZ3 hg HB.out)); clear HB; have HB := n0_; have BK123 := n1_; have GW123 := n2_; have GE123 := n3_; clear n0_ n1_ n2_ n3_; clear hb hbox hg; have hcz14_0 : w13.cell? ⟨gb123, 0, none⟩ = some (.int .i64 0) := (blk_cell BK123.out 0).trans rfl; have hcz14_1 : w13.cell? ⟨gb123, 1, none⟩ = some (.int .u64 0) := (blk_cell BK123.out 1).trans rfl; have hcz14_2 : w13.cell? ⟨gb123, 2, none⟩ = some (.int .u64 0) := (blk_cell BK123.out 2).trans rfl; have hcz14_3 : w13.cell? ⟨gb123, 3, none⟩ = some (.int .u64 0) := (blk_cell BK123.out 3).trans rfl; have hcz14_4 : w13.cell? ⟨gb123, 4, none⟩ = some (.int .i64 0) := (blk_cell BK123.out 4).trans rfl; have hfz14_0 := blk_frozen BK123.out 0; have hfz14_1 := blk_frozen BK123.out 1; have hfz14_2 := blk_frozen BK123.out 2; have hfz14_3 := blk_frozen BK123.out 3; have hfz14_4 := blk_frozen BK123.out 4) | ((with_reducible refine gC (f := 60) rfl ?_); refine goesY_ (some 19) Try.func60 #[.int .i64 a0, .int .u64 a1] ?_; (with_reducible refine (shape_Fold.calls a0 a1 t125 t126 _ A4.out).mono ?_); rintro e w' ⟨rfl, ⟨nd, rfl⟩⟩; refine ⟨_, rfl, ?_⟩; (try simp only [errW_none, errW_some])) | ((with_reducible refine gC (f := 60) rfl ?_); refine goesY_ (some 36) Try.func60 #[.int .i64 a0, .int .u64 t125] ?_; (with_reducible refine (shape_Fold.calls a0 t125 t129 t130 _ A11.out).mono ?_); rintro e w' ⟨rfl, ⟨nd, rfl⟩⟩; refine ⟨_, rfl, ?_⟩; (try simp only [errW_none, errW_some])))
        go_ret2
        exact ⟨by first | rfl | (simp [errW_none, errW_some] <;> rfl) | (simp [*, errW_none, errW_some] <;> rfl), by repeat (first | (with_reducible first | exact HB.out | apply pA | apply pN | apply p1 | refine pS ?_ GE123.out) | exact HB.out)⟩
      · rw [if_neg c10] at H
        have c10b0 : (t125 == t118) = false := beq_eq_false_iff_ne.mpr c10
        have c10b1 : (t125 != t118) = true := bne_iff_ne.mpr c10
        replace H := Option.bind_eq_some_iff.mp H
        obtain ⟨⟨t131, t132⟩, A150, H⟩ := H
        replace H : (some (t131, t132)) = some (r1, r2) := H
        have A15 := Aside0.mk A150
        clear A150
        simp only [Option.some.injEq, Prod.mk.injEq] at H
        obtain ⟨rfl, rfl⟩ := H
        go_enter Try.func26, Try.ntmps26
        go_wp2_with (first | ((with_reducible refine gC (f := 63) rfl ?_); refine goesY_ (some 10) Try.func63 #[.int .i64 a0] ?_; (with_reducible refine (shape_Of.calls a0 t117 t118 t119 t120 t121 none _ A3.out).mono ?_); rintro e w16 ⟨rfl, hb⟩; refine ⟨_, rfl, ?_⟩; have n0_ := Aside0.mk (bS3 HB.out hb); clear HB; have HB := n0_; clear n0_; (try clear hb); (try clear hb2); (try clear hk); (try clear hi); (try simp only [errW_none, errW_some])) | ((with_reducible refine gD (N := 6) rfl ?_); refine bE3 6 #[.int .i64 0, .int .u64 0, .int .u64 0, .int .u64 0, .int .i64 0] 88 ?hr ?_; (case hr => first | (go_simp; done) | (go_simp; rfl)); intro gb123 hg w17 hbox hb; have n0_ := Aside0.mk (bS3 HB.out hb); have n1_ := Aside0.mk (hbox); have n2_ := Aside0.mk ((bZ3 hg HB.out)); have n3_ := Aside0.mk ((bZ3 hg HB.out)); clear HB; have HB := n0_; have BK123 := n1_; have GW123 := n2_; have GE123 := n3_; clear n0_ n1_ n2_ n3_; clear hb hbox hg; have hcz18_0 : w17.cell? ⟨gb123, 0, none⟩ = some (.int .i64 0) := (blk_cell BK123.out 0).trans rfl; have hcz18_1 : w17.cell? ⟨gb123, 1, none⟩ = some (.int .u64 0) := (blk_cell BK123.out 1).trans rfl; have hcz18_2 : w17.cell? ⟨gb123, 2, none⟩ = some (.int .u64 0) := (blk_cell BK123.out 2).trans rfl; have hcz18_3 : w17.cell? ⟨gb123, 3, none⟩ = some (.int .u64 0) := (blk_cell BK123.out 3).trans rfl; have hcz18_4 : w17.cell? ⟨gb123, 4, none⟩ = some (.int .i64 0) := (blk_cell BK123.out 4).trans rfl; have hfz18_0 := blk_frozen BK123.out 0; have hfz18_1 := blk_frozen BK123.out 1; have hfz18_2 := blk_frozen BK123.out 2; have hfz18_3 := blk_frozen BK123.out 3; have hfz18_4 := blk_frozen BK123.out 4) | ((with_reducible refine gC (f := 60) rfl ?_); refine goesY_ (some 19) Try.func60 #[.int .i64 a0, .int .u64 a1] ?_; (with_reducible refine (shape_Fold.calls a0 a1 t125 t126 _ A4.out).mono ?_); rintro e w' ⟨rfl, ⟨nd, rfl⟩⟩; refine ⟨_, rfl, ?_⟩; (try simp only [errW_none, errW_some])) | ((with_reducible refine gC (f := 60) rfl ?_); refine goesY_ (some 36) Try.func60 #[.int .i64 a0, .int .u64 (IntKind.u64.wrap (t125 + 1))] ?_; (with_reducible refine (shape_Fold.calls a0 (IntKind.u64.wrap (t125 + 1)) t131 t132 _ A15.out).mono ?_); rintro e w' ⟨rfl, ⟨nd, rfl⟩⟩; refine ⟨_, rfl, ?_⟩; (try simp only [errW_none, errW_some])))
        go_ret2
        exact ⟨by first | rfl | (simp [errW_none, errW_some] <;> rfl) | (simp [*, errW_none, errW_some] <;> rfl), by repeat (first | (with_reducible first | exact HB.out | apply pA | apply pN | apply p1 | refine pS ?_ GE123.out) | exact HB.out)⟩
  · have H1 : (some (0, some q124)) = some (r1, r2) := by rw [if_neg (show ¬ (some q124).isNone = true by simp)] at H; exact H
    clear H
    have H := H1
    clear H1
    try simp only [errW_none, errW_some]
    simp only [Option.some.injEq, Prod.mk.injEq] at H
    obtain ⟨rfl, rfl⟩ := H
    go_enter Try.func26, Try.ntmps26
    go_wp2_with (first | ((with_reducible refine gC (f := 63) rfl ?_); refine goesY_ (some 10) Try.func63 #[.int .i64 a0] ?_; (with_reducible refine (shape_Of.calls a0 t117 t118 t119 t120 t121 (some q124) _ A3.out).mono ?_); rintro e w19 ⟨rfl, hb⟩; refine ⟨_, rfl, ?_⟩; have n0_ := Aside0.mk (bS3 HB.out hb); clear HB; have HB := n0_; clear n0_; (try clear hb); (try clear hb2); (try clear hk); (try clear hi); (try simp only [errW_none, errW_some])) | ((with_reducible refine gD (N := 6) rfl ?_); refine bE3 6 #[.int .i64 0, .int .u64 0, .int .u64 0, .int .u64 0, .int .i64 0] 88 ?hr ?_; (case hr => first | (go_simp; done) | (go_simp; rfl)); intro gb123 hg w20 hbox hb; have n0_ := Aside0.mk (bS3 HB.out hb); have n1_ := Aside0.mk (hbox); have n2_ := Aside0.mk ((bZ3 hg HB.out)); have n3_ := Aside0.mk ((bZ3 hg HB.out)); clear HB; have HB := n0_; have BK123 := n1_; have GW123 := n2_; have GE123 := n3_; clear n0_ n1_ n2_ n3_; clear hb hbox hg; have hcz21_0 : w20.cell? ⟨gb123, 0, none⟩ = some (.int .i64 0) := (blk_cell BK123.out 0).trans rfl; have hcz21_1 : w20.cell? ⟨gb123, 1, none⟩ = some (.int .u64 0) := (blk_cell BK123.out 1).trans rfl; have hcz21_2 : w20.cell? ⟨gb123, 2, none⟩ = some (.int .u64 0) := (blk_cell BK123.out 2).trans rfl; have hcz21_3 : w20.cell? ⟨gb123, 3, none⟩ = some (.int .u64 0) := (blk_cell BK123.out 3).trans rfl; have hcz21_4 : w20.cell? ⟨gb123, 4, none⟩ = some (.int .i64 0) := (blk_cell BK123.out 4).trans rfl; have hfz21_0 := blk_frozen BK123.out 0; have hfz21_1 := blk_frozen BK123.out 1; have hfz21_2 := blk_frozen BK123.out 2; have hfz21_3 := blk_frozen BK123.out 3; have hfz21_4 := blk_frozen BK123.out 4))
    go_ret2
    exact ⟨by first | rfl | (simp [errW_none, errW_some] <;> rfl) | (simp [*, errW_none, errW_some] <;> rfl), by repeat (first | (with_reducible first | exact HB.out | apply pA | apply pN | apply p1 | refine pS ?_ GE123.out) | exact HB.out)⟩

/-! ### order_Prev: function 27 -/
def order_Prev.f (a0 : Int) (a1 : Int) : Option (Int × Option Int) := (shape_Of.f a0).bind fun bt255 => (if bt255.2.2.2.2.2.isNone = true then ((shape_Fold.f a0 a1).bind fun bt263 => (if bt263.1 = bt255.2.2.2.1 then ((shape_Fold.f a0 bt263.1).bind fun bt265 => (some (bt265.1, bt265.2))) else (if bt263.1 = (IntKind.u64.wrap (bt255.2.2.2.1 + 1)) then ((shape_Fold.f a0 bt263.1).bind fun bt267 => (some (bt267.1, bt267.2))) else ((shape_Fold.f a0 (IntKind.u64.wrap (bt263.1 - 1))).bind fun bt269 => (some (bt269.1, bt269.2)))))) else (some (0, some (bt255.2.2.2.2.2.getD 0))))
set_option maxHeartbeats 8000000 in
set_option maxRecDepth 100000 in
theorem order_Prev.calls (a0 : Int) (a1 : Int) (r1 : Int) (r2 : Option Int) (w : World) (h : order_Prev.f a0 a1 = some (r1, r2)) :
    Calls Try.prog 27 #[.int .i64 a0, .int .u64 a1] w fun e w' => e = .returned (.tuple #[.int .u64 r1, errW r2]) ∧ Below w.heap.size w w' := by
  have hu88 := Try.underlying88
  have hu25 := Try.underlying25
  have hu33 := Try.underlying33
  have HB := Aside0.mk (Below.refl w.heap.size w)
  have H : ((shape_Of.f a0).bind fun bt255 => (if bt255.2.2.2.2.2.isNone = true then ((shape_Fold.f a0 a1).bind fun bt263 => (if bt263.1 = bt255.2.2.2.1 then ((shape_Fold.f a0 bt263.1).bind fun bt265 => (some (bt265.1, bt265.2))) else (if bt263.1 = (IntKind.u64.wrap (bt255.2.2.2.1 + 1)) then ((shape_Fold.f a0 bt263.1).bind fun bt267 => (some (bt267.1, bt267.2))) else ((shape_Fold.f a0 (IntKind.u64.wrap (bt263.1 - 1))).bind fun bt269 => (some (bt269.1, bt269.2)))))) else (some (0, some (bt255.2.2.2.2.2.getD 0))))) = some (r1, r2) := h
  clear h
  replace H := Option.bind_eq_some_iff.mp H
  obtain ⟨⟨t255, t256, t257, t258, t259, t260⟩, A30, H⟩ := H
  replace H : (if t260.isNone = true then ((shape_Fold.f a0 a1).bind fun bt263 => (if bt263.1 = t258 then ((shape_Fold.f a0 bt263.1).bind fun bt265 => (some (bt265.1, bt265.2))) else (if bt263.1 = (IntKind.u64.wrap (t258 + 1)) then ((shape_Fold.f a0 bt263.1).bind fun bt267 => (some (bt267.1, bt267.2))) else ((shape_Fold.f a0 (IntKind.u64.wrap (bt263.1 - 1))).bind fun bt269 => (some (bt269.1, bt269.2)))))) else (some (0, some (t260.getD 0)))) = some (r1, r2) := H
  have A3 := Aside0.mk A30
  clear A30
  rcases t260 with _ | q262
  · have H1 : ((shape_Fold.f a0 a1).bind fun bt263 => (if bt263.1 = t258 then ((shape_Fold.f a0 bt263.1).bind fun bt265 => (some (bt265.1, bt265.2))) else (if bt263.1 = (IntKind.u64.wrap (t258 + 1)) then ((shape_Fold.f a0 bt263.1).bind fun bt267 => (some (bt267.1, bt267.2))) else ((shape_Fold.f a0 (IntKind.u64.wrap (bt263.1 - 1))).bind fun bt269 => (some (bt269.1, bt269.2)))))) = some (r1, r2) := by rw [if_pos (show (none : Option Int).isNone = true by rfl)] at H; exact H
    clear H
    have H := H1
    clear H1
    try simp only [errW_none, errW_some]
    replace H := Option.bind_eq_some_iff.mp H
    obtain ⟨⟨t263, t264⟩, A40, H⟩ := H
    replace H : (if t263 = t258 then ((shape_Fold.f a0 t263).bind fun bt265 => (some (bt265.1, bt265.2))) else (if t263 = (IntKind.u64.wrap (t258 + 1)) then ((shape_Fold.f a0 t263).bind fun bt267 => (some (bt267.1, bt267.2))) else ((shape_Fold.f a0 (IntKind.u64.wrap (t263 - 1))).bind fun bt269 => (some (bt269.1, bt269.2))))) = some (r1, r2) := H
    have A4 := Aside0.mk A40
    clear A40
    by_cases c5 : t263 = t258
    · rw [if_pos c5] at H
      have c5b0 : (t263 == t258) = true := beq_iff_eq.mpr c5
      have c5b1 : (t263 != t258) = false := bne_eq_false_iff_eq.mpr c5
      clear c5
      replace H := Option.bind_eq_some_iff.mp H
      obtain ⟨⟨t265, t266⟩, A60, H⟩ := H
      replace H : (some (t265, t266)) = some (r1, r2) := H
      have A6 := Aside0.mk A60
      clear A60
      simp only [Option.some.injEq, Prod.mk.injEq] at H
      obtain ⟨rfl, rfl⟩ := H
      go_enter Try.func27, Try.ntmps27
      go_wp2_with (first | ((with_reducible refine gC (f := 63) rfl ?_); refine goesY_ (some 10) Try.func63 #[.int .i64 a0] ?_; (with_reducible refine (shape_Of.calls a0 t255 t256 t257 t258 t259 none _ A3.out).mono ?_); rintro e w7 ⟨rfl, hb⟩; refine ⟨_, rfl, ?_⟩; have n0_ := Aside0.mk (bS3 HB.out hb); clear HB; have HB := n0_; clear n0_; (try clear hb); (try clear hb2); (try clear hk); (try clear hi); (try simp only [errW_none, errW_some])) | ((with_reducible refine gD (N := 6) rfl ?_); refine bE3 6 #[.int .i64 0, .int .u64 0, .int .u64 0, .int .u64 0, .int .i64 0] 88 ?hr ?_; (case hr => first | (go_simp; done) | (go_simp; rfl)); intro gb261 hg w8 hbox hb; have n0_ := Aside0.mk (bS3 HB.out hb); have n1_ := Aside0.mk (hbox); have n2_ := Aside0.mk ((bZ3 hg HB.out)); have n3_ := Aside0.mk ((bZ3 hg HB.out)); clear HB; have HB := n0_; have BK261 := n1_; have GW261 := n2_; have GE261 := n3_; clear n0_ n1_ n2_ n3_; clear hb hbox hg; have hcz9_0 : w8.cell? ⟨gb261, 0, none⟩ = some (.int .i64 0) := (blk_cell BK261.out 0).trans rfl; have hcz9_1 : w8.cell? ⟨gb261, 1, none⟩ = some (.int .u64 0) := (blk_cell BK261.out 1).trans rfl; have hcz9_2 : w8.cell? ⟨gb261, 2, none⟩ = some (.int .u64 0) := (blk_cell BK261.out 2).trans rfl; have hcz9_3 : w8.cell? ⟨gb261, 3, none⟩ = some (.int .u64 0) := (blk_cell BK261.out 3).trans rfl; have hcz9_4 : w8.cell? ⟨gb261, 4, none⟩ = some (.int .i64 0) := (blk_cell BK261.out 4).trans rfl; have hfz9_0 := blk_frozen BK261.out 0; have hfz9_1 := blk_frozen BK261.out 1; have hfz9_2 := blk_frozen BK261.out 2; have hfz9_3 := blk_frozen BK261.out 3; have hfz9_4 := blk_frozen BK261.out 4) | ((with_reducible refine gC (f := 60) rfl ?_); refine goesY_ (some 19) Try.func60 #[.int .i64 a0, .int .u64 a1] ?_; (with_reducible refine (shape_Fold.calls a0 a1 t263 t264 _ A4.out).mono ?_); rintro e w' ⟨rfl, ⟨nd, rfl⟩⟩; refine ⟨_, rfl, ?_⟩; (try simp only [errW_none, errW_some])) | ((with_reducible refine gC (f := 60) rfl ?_); refine goesY_ (some 37) Try.func60 #[.int .i64 a0, .int .u64 t263] ?_; (with_reducible refine (shape_Fold.calls a0 t263 t265 t266 _ A6.out).mono ?_); rintro e w' ⟨rfl, ⟨nd, rfl⟩⟩; refine ⟨_, rfl, ?_⟩; (try simp only [errW_none, errW_some])))
      go_ret2
      exact ⟨by first | rfl | (simp [errW_none, errW_some] <;> rfl) | (simp [*, errW_none, errW_some] <;> rfl), by repeat (first | (with_reducible first | exact HB.out | apply pA | apply pN | apply p1 | refine pS ?_ GE261.out) | exact HB.out)⟩
    · rw [if_neg c5] at H
      have c5b0 : (t263 == t258) = false := beq_eq_false_iff_ne.mpr c5
      have c5b1 : (t263 != t258) = true := bne_iff_ne.mpr c5
      by_cases c10 : t263 = (IntKind.u64.wrap (t258 + 1))
      · rw [if_pos c10] at H
        have c10b0 : (t263 == (IntKind.u64.wrap (t258 + 1))) = true := beq_iff_eq.mpr c10
        have c10b1 : (t263 != (IntKind.u64.wrap (t258 + 1))) = false := bne_eq_false_iff_eq.mpr c10
        clear c10
        replace H := Option.bind_eq_some_iff.mp H
        obtain ⟨⟨t267, t268⟩, A110, H⟩ := H
        replace H : (some (t267, t268)) = some (r1, r2) := H
        have A11 := Aside0.mk A110
        clear A110
        simp only [Option.some.injEq, Prod.mk.injEq] at H
        obtain ⟨rfl, rfl⟩ := H
        go_enter Try.func27, Try.ntmps27
        go_wp2_with (first | ((with_reducible refine gC (f := 63) rfl ?_); refine goesY_ (some 10) Try.func63 #[.int .i64 a0] ?_; (with_reducible refine (shape_Of.calls a0 t255 t256 t257 t258 t259 none _ A3.out).mono ?_); rintro e w12 ⟨rfl, hb⟩; refine ⟨_, rfl, ?_⟩; have n0_ := Aside0.mk (bS3 HB.out hb); clear HB; have HB := n0_; clear n0_; (try clear hb); (try clear hb2); (try clear hk); (try clear hi); (try simp only [errW_none, errW_some])) | ((with_reducible refine gD (N := 6) rfl ?_); refine bE3 6 #[.int .i64 0, .int .u64 0, .int .u64 0, .int .u64 0, .int .i64 0] 88 ?hr ?_; (case hr => first | (go_simp; done) | (go_simp; rfl)); intro gb261 hg w13 hbox hb; have n0_ := Aside0.mk (bS3 HB.out hb); have n1_ := Aside0.mk (hbox); have n2_ := Aside0.mk ((bZ3 hg HB.out)); have n3_ := Aside0.mk ((bZ3 hg HB.out)); clear HB; have HB := n0_; have BK261 := n1_; have GW261 := n2_; have GE261 := n3_; clear n0_ n1_ n2_ n3_; clear hb hbox hg; have hcz14_0 : w13.cell? ⟨gb261, 0, none⟩ = some (.int .i64 0) := (blk_cell BK261.out 0).trans rfl; have hcz14_1 : w13.cell? ⟨gb261, 1, none⟩ = some (.int .u64 0) := (blk_cell BK261.out 1).trans rfl; have hcz14_2 : w13.cell? ⟨gb261, 2, none⟩ = some (.int .u64 0) := (blk_cell BK261.out 2).trans rfl; have hcz14_3 : w13.cell? ⟨gb261, 3, none⟩ = some (.int .u64 0) := (blk_cell BK261.out 3).trans rfl; have hcz14_4 : w13.cell? ⟨gb261, 4, none⟩ = some (.int .i64 0) := (blk_cell BK261.out 4).trans rfl; have hfz14_0 := blk_frozen BK261.out 0; have hfz14_1 := blk_frozen BK261.out 1; have hfz14_2 := blk_frozen BK261.out 2; have hfz14_3 := blk_frozen BK261.out 3; have hfz14_4 := blk_frozen BK261.out 4) | ((with_reducible refine gC (f := 60) rfl ?_); refine goesY_ (some 19) Try.func60 #[.int .i64 a0, .int .u64 a1] ?_; (with_reducible refine (shape_Fold.calls a0 a1 t263 t264 _ A4.out).mono ?_); rintro e w' ⟨rfl, ⟨nd, rfl⟩⟩; refine ⟨_, rfl, ?_⟩; (try simp only [errW_none, errW_some])) | ((with_reducible refine gC (f := 60) rfl ?_); refine goesY_ (some 37) Try.func60 #[.int .i64 a0, .int .u64 t263] ?_; (with_reducible refine (shape_Fold.calls a0 t263 t267 t268 _ A11.out).mono ?_); rintro e w' ⟨rfl, ⟨nd, rfl⟩⟩; refine ⟨_, rfl, ?_⟩; (try simp only [errW_none, errW_some])))
        go_ret2
        exact ⟨by first | rfl | (simp [errW_none, errW_some] <;> rfl) | (simp [*, errW_none, errW_some] <;> rfl), by repeat (first | (with_reducible first | exact HB.out | apply pA | apply pN | apply p1 | refine pS ?_ GE261.out) | exact HB.out)⟩
      · rw [if_neg c10] at H
        have c10b0 : (t263 == (IntKind.u64.wrap (t258 + 1))) = false := beq_eq_false_iff_ne.mpr c10
        have c10b1 : (t263 != (IntKind.u64.wrap (t258 + 1))) = true := bne_iff_ne.mpr c10
        replace H := Option.bind_eq_some_iff.mp H
        obtain ⟨⟨t269, t270⟩, A150, H⟩ := H
        replace H : (some (t269, t270)) = some (r1, r2) := H
        have A15 := Aside0.mk A150
        clear A150
        simp only [Option.some.injEq, Prod.mk.injEq] at H
        obtain ⟨rfl, rfl⟩ := H
        go_enter Try.func27, Try.ntmps27
        go_wp2_with (first | ((with_reducible refine gC (f := 63) rfl ?_); refine goesY_ (some 10) Try.func63 #[.int .i64 a0] ?_; (with_reducible refine (shape_Of.calls a0 t255 t256 t257 t258 t259 none _ A3.out).mono ?_); rintro e w16 ⟨rfl, hb⟩; refine ⟨_, rfl, ?_⟩; have n0_ := Aside0.mk (bS3 HB.out hb); clear HB; have HB := n0_; clear n0_; (try clear hb); (try clear hb2); (try clear hk); (try clear hi); (try simp only [errW_none, errW_some])) | ((with_reducible refine gD (N := 6) rfl ?_); refine bE3 6 #[.int .i64 0, .int .u64 0, .int .u64 0, .int .u64 0, .int .i64 0] 88 ?hr ?_; (case hr => first | (go_simp; done) | (go_simp; rfl)); intro gb261 hg w17 hbox hb; have n0_ := Aside0.mk (bS3 HB.out hb); have n1_ := Aside0.mk (hbox); have n2_ := Aside0.mk ((bZ3 hg HB.out)); have n3_ := Aside0.mk ((bZ3 hg HB.out)); clear HB; have HB := n0_; have BK261 := n1_; have GW261 := n2_; have GE261 := n3_; clear n0_ n1_ n2_ n3_; clear hb hbox hg; have hcz18_0 : w17.cell? ⟨gb261, 0, none⟩ = some (.int .i64 0) := (blk_cell BK261.out 0).trans rfl; have hcz18_1 : w17.cell? ⟨gb261, 1, none⟩ = some (.int .u64 0) := (blk_cell BK261.out 1).trans rfl; have hcz18_2 : w17.cell? ⟨gb261, 2, none⟩ = some (.int .u64 0) := (blk_cell BK261.out 2).trans rfl; have hcz18_3 : w17.cell? ⟨gb261, 3, none⟩ = some (.int .u64 0) := (blk_cell BK261.out 3).trans rfl; have hcz18_4 : w17.cell? ⟨gb261, 4, none⟩ = some (.int .i64 0) := (blk_cell BK261.out 4).trans rfl; have hfz18_0 := blk_frozen BK261.out 0; have hfz18_1 := blk_frozen BK261.out 1; have hfz18_2 := blk_frozen BK261.out 2; have hfz18_3 := blk_frozen BK261.out 3; have hfz18_4 := blk_frozen BK261.out 4) | ((with_reducible refine gC (f := 60) rfl ?_); refine goesY_ (some 19) Try.func60 #[.int .i64 a0, .int .u64 a1] ?_; (with_reducible refine (shape_Fold.calls a0 a1 t263 t264 _ A4.out).mono ?_); rintro e w' ⟨rfl, ⟨nd, rfl⟩⟩; refine ⟨_, rfl, ?_⟩; (try simp only [errW_none, errW_some])) | ((with_reducible refine gC (f := 60) rfl ?_); refine goesY_ (some 37) Try.func60 #[.int .i64 a0, .int .u64 (IntKind.u64.wrap (t263 - 1))] ?_; (with_reducible refine (shape_Fold.calls a0 (IntKind.u64.wrap (t263 - 1)) t269 t270 _ A15.out).mono ?_); rintro e w' ⟨rfl, ⟨nd, rfl⟩⟩; refine ⟨_, rfl, ?_⟩; (try simp only [errW_none, errW_some])))
        go_ret2
        exact ⟨by first | rfl | (simp [errW_none, errW_some] <;> rfl) | (simp [*, errW_none, errW_some] <;> rfl), by repeat (first | (with_reducible first | exact HB.out | apply pA | apply pN | apply p1 | refine pS ?_ GE261.out) | exact HB.out)⟩
  · have H1 : (some (0, some q262)) = some (r1, r2) := by rw [if_neg (show ¬ (some q262).isNone = true by simp)] at H; exact H
    clear H
    have H := H1
    clear H1
    try simp only [errW_none, errW_some]
    simp only [Option.some.injEq, Prod.mk.injEq] at H
    obtain ⟨rfl, rfl⟩ := H
    go_enter Try.func27, Try.ntmps27
    go_wp2_with (first | ((with_reducible refine gC (f := 63) rfl ?_); refine goesY_ (some 10) Try.func63 #[.int .i64 a0] ?_; (with_reducible refine (shape_Of.calls a0 t255 t256 t257 t258 t259 (some q262) _ A3.out).mono ?_); rintro e w19 ⟨rfl, hb⟩; refine ⟨_, rfl, ?_⟩; have n0_ := Aside0.mk (bS3 HB.out hb); clear HB; have HB := n0_; clear n0_; (try clear hb); (try clear hb2); (try clear hk); (try clear hi); (try simp only [errW_none, errW_some])) | ((with_reducible refine gD (N := 6) rfl ?_); refine bE3 6 #[.int .i64 0, .int .u64 0, .int .u64 0, .int .u64 0, .int .i64 0] 88 ?hr ?_; (case hr => first | (go_simp; done) | (go_simp; rfl)); intro gb261 hg w20 hbox hb; have n0_ := Aside0.mk (bS3 HB.out hb); have n1_ := Aside0.mk (hbox); have n2_ := Aside0.mk ((bZ3 hg HB.out)); have n3_ := Aside0.mk ((bZ3 hg HB.out)); clear HB; have HB := n0_; have BK261 := n1_; have GW261 := n2_; have GE261 := n3_; clear n0_ n1_ n2_ n3_; clear hb hbox hg; have hcz21_0 : w20.cell? ⟨gb261, 0, none⟩ = some (.int .i64 0) := (blk_cell BK261.out 0).trans rfl; have hcz21_1 : w20.cell? ⟨gb261, 1, none⟩ = some (.int .u64 0) := (blk_cell BK261.out 1).trans rfl; have hcz21_2 : w20.cell? ⟨gb261, 2, none⟩ = some (.int .u64 0) := (blk_cell BK261.out 2).trans rfl; have hcz21_3 : w20.cell? ⟨gb261, 3, none⟩ = some (.int .u64 0) := (blk_cell BK261.out 3).trans rfl; have hcz21_4 : w20.cell? ⟨gb261, 4, none⟩ = some (.int .i64 0) := (blk_cell BK261.out 4).trans rfl; have hfz21_0 := blk_frozen BK261.out 0; have hfz21_1 := blk_frozen BK261.out 1; have hfz21_2 := blk_frozen BK261.out 2; have hfz21_3 := blk_frozen BK261.out 3; have hfz21_4 := blk_frozen BK261.out 4))
    go_ret2
    exact ⟨by first | rfl | (simp [errW_none, errW_some] <;> rfl) | (simp [*, errW_none, errW_some] <;> rfl), by repeat (first | (with_reducible first | exact HB.out | apply pA | apply pN | apply p1 | refine pS ?_ GE261.out) | exact HB.out)⟩

/-! ### order_Steps: function 30 -/
def order_Steps.f (a0 : Int) (a1 : Int) (a2 : Int) : Option (Int × Option Int) := (shape_Rank.f a0 a1).bind fun bt309 => (if bt309.2.isNone = true then ((shape_Rank.f a0 a2).bind fun bt312 => (if bt309.1 < bt312.1 then (some (IntKind.u64.wrap ((IntKind.u64.wrap (bt312.1)) - (IntKind.u64.wrap (bt309.1))), none)) else (some (IntKind.u64.wrap ((IntKind.u64.wrap (bt309.1)) - (IntKind.u64.wrap (bt312.1))), none)))) else (some (0, some (bt309.2.getD 0))))
set_option maxHeartbeats 8000000 in
set_option maxRecDepth 100000 in
theorem order_Steps.calls (a0 : Int) (a1 : Int) (a2 : Int) (r1 : Int) (r2 : Option Int) (w : World) (h : order_Steps.f a0 a1 a2 = some (r1, r2)) :
    Calls Try.prog 30 #[.int .i64 a0, .int .u64 a1, .int .u64 a2] w fun e w' => e = .returned (.tuple #[.int .u64 r1, errW r2]) ∧ Drawn0 w w' := by
  have hu25 := Try.underlying25
  have hu33 := Try.underlying33
  have H : ((shape_Rank.f a0 a1).bind fun bt309 => (if bt309.2.isNone = true then ((shape_Rank.f a0 a2).bind fun bt312 => (if bt309.1 < bt312.1 then (some (IntKind.u64.wrap ((IntKind.u64.wrap (bt312.1)) - (IntKind.u64.wrap (bt309.1))), none)) else (some (IntKind.u64.wrap ((IntKind.u64.wrap (bt309.1)) - (IntKind.u64.wrap (bt312.1))), none)))) else (some (0, some (bt309.2.getD 0))))) = some (r1, r2) := h
  clear h
  replace H := Option.bind_eq_some_iff.mp H
  obtain ⟨⟨t309, t310⟩, A40, H⟩ := H
  replace H : (if t310.isNone = true then ((shape_Rank.f a0 a2).bind fun bt312 => (if t309 < bt312.1 then (some (IntKind.u64.wrap ((IntKind.u64.wrap (bt312.1)) - (IntKind.u64.wrap (t309))), none)) else (some (IntKind.u64.wrap ((IntKind.u64.wrap (t309)) - (IntKind.u64.wrap (bt312.1))), none)))) else (some (0, some (t310.getD 0)))) = some (r1, r2) := H
  have A4 := Aside0.mk A40
  clear A40
  rcases t310 with _ | q311
  · have H1 : ((shape_Rank.f a0 a2).bind fun bt312 => (if t309 < bt312.1 then (some (IntKind.u64.wrap ((IntKind.u64.wrap (bt312.1)) - (IntKind.u64.wrap (t309))), none)) else (some (IntKind.u64.wrap ((IntKind.u64.wrap (t309)) - (IntKind.u64.wrap (bt312.1))), none)))) = some (r1, r2) := by rw [if_pos (show (none : Option Int).isNone = true by rfl)] at H; exact H
    clear H
    have H := H1
    clear H1
    try simp only [errW_none, errW_some]
    replace H := Option.bind_eq_some_iff.mp H
    obtain ⟨⟨t312, t313⟩, A50, H⟩ := H
    replace H : (if t309 < t312 then (some (IntKind.u64.wrap ((IntKind.u64.wrap (t312)) - (IntKind.u64.wrap (t309))), none)) else (some (IntKind.u64.wrap ((IntKind.u64.wrap (t309)) - (IntKind.u64.wrap (t312))), none))) = some (r1, r2) := H
    have A5 := Aside0.mk A50
    clear A50
    by_cases c6 : t309 < t312
    · rw [if_pos c6] at H
      have c6b0 : decide (t309 < t312) = true := decide_eq_true c6
      clear c6
      simp only [Option.some.injEq, Prod.mk.injEq] at H
      obtain ⟨rfl, rfl⟩ := H
      go_enter Try.func30, Try.ntmps30
      go_wp2_with (first | ((with_reducible refine gC (f := 56) rfl ?_); refine goesY_ (some 15) Try.func56 #[.int .i64 a0, .int .u64 a1] ?_; (with_reducible refine (shape_Rank.calls a0 a1 t309 none _ A4.out).mono ?_); rintro e w' ⟨rfl, ⟨nd, rfl⟩⟩; refine ⟨_, rfl, ?_⟩; (try simp only [errW_none, errW_some])) | ((with_reducible refine gC (f := 56) rfl ?_); refine goesY_ (some 24) Try.func56 #[.int .i64 a0, .int .u64 a2] ?_; (with_reducible refine (shape_Rank.calls a0 a2 t312 t313 _ A5.out).mono ?_); rintro e w' ⟨rfl, ⟨nd, rfl⟩⟩; refine ⟨_, rfl, ?_⟩; (try simp only [errW_none, errW_some])))
      go_ret2
      exact ⟨by first | rfl | (simp; done) | (simp [*]; done), by repeat (first | exact Drawn0.refl _ | apply Drawn0.step)⟩
    · rw [if_neg c6] at H
      have c6b0 : decide (t309 < t312) = false := decide_eq_false c6
      clear c6
      simp only [Option.some.injEq, Prod.mk.injEq] at H
      obtain ⟨rfl, rfl⟩ := H
      go_enter Try.func30, Try.ntmps30
      go_wp2_with (first | ((with_reducible refine gC (f := 56) rfl ?_); refine goesY_ (some 15) Try.func56 #[.int .i64 a0, .int .u64 a1] ?_; (with_reducible refine (shape_Rank.calls a0 a1 t309 none _ A4.out).mono ?_); rintro e w' ⟨rfl, ⟨nd, rfl⟩⟩; refine ⟨_, rfl, ?_⟩; (try simp only [errW_none, errW_some])) | ((with_reducible refine gC (f := 56) rfl ?_); refine goesY_ (some 24) Try.func56 #[.int .i64 a0, .int .u64 a2] ?_; (with_reducible refine (shape_Rank.calls a0 a2 t312 t313 _ A5.out).mono ?_); rintro e w' ⟨rfl, ⟨nd, rfl⟩⟩; refine ⟨_, rfl, ?_⟩; (try simp only [errW_none, errW_some])))
      go_ret2
      exact ⟨by first | rfl | (simp; done) | (simp [*]; done), by repeat (first | exact Drawn0.refl _ | apply Drawn0.step)⟩
  · have H1 : (some (0, some q311)) = some (r1, r2) := by rw [if_neg (show ¬ (some q311).isNone = true by simp)] at H; exact H
    clear H
    have H := H1
    clear H1
    try simp only [errW_none, errW_some]
    simp only [Option.some.injEq, Prod.mk.injEq] at H
    obtain ⟨rfl, rfl⟩ := H
    go_enter Try.func30, Try.ntmps30
    go_wp2_with (first | ((with_reducible refine gC (f := 56) rfl ?_); refine goesY_ (some 15) Try.func56 #[.int .i64 a0, .int .u64 a1] ?_; (with_reducible refine (shape_Rank.calls a0 a1 t309 (some q311) _ A4.out).mono ?_); rintro e w' ⟨rfl, ⟨nd, rfl⟩⟩; refine ⟨_, rfl, ?_⟩; (try simp only [errW_none, errW_some])))
    go_ret2
    exact ⟨by first | rfl | (simp; done) | (simp [*]; done), by repeat (first | exact Drawn0.refl _ | apply Drawn0.step)⟩

/-! ### order_Min: function 32 -/
def order_Min.f (a0 : Int) (a1 : Int) (a2 : Int) : Option (Int × Option Int) := (order_Cmp.f a0 a1 a2).bind fun bt326 => (if bt326.1 > 0 then ((shape_Fold.f a0 a2).bind fun bt328 => (some (bt328.1, bt328.2))) else ((shape_Fold.f a0 a1).bind fun bt330 => (some (bt330.1, bt330.2))))
set_option maxHeartbeats 8000000 in
set_option maxRecDepth 100000 in
theorem order_Min.calls (a0 : Int) (a1 : Int) (a2 : Int) (r1 : Int) (r2 : Option Int) (w : World) (h : order_Min.f a0 a1 a2 = some (r1, r2)) :
    Calls Try.prog 32 #[.int .i64 a0, .int .u64 a1, .int .u64 a2] w fun e w' => e = .returned (.tuple #[.int .u64 r1, errW r2]) ∧ Drawn0 w w' := by
  have H : ((order_Cmp.f a0 a1 a2).bind fun bt326 => (if bt326.1 > 0 then ((shape_Fold.f a0 a2).bind fun bt328 => (some (bt328.1, bt328.2))) else ((shape_Fold.f a0 a1).bind fun bt330 => (some (bt330.1, bt330.2))))) = some (r1, r2) := h
  clear h
  replace H := Option.bind_eq_some_iff.mp H
  obtain ⟨⟨t326, t327⟩, A40, H⟩ := H
  replace H : (if t326 > 0 then ((shape_Fold.f a0 a2).bind fun bt328 => (some (bt328.1, bt328.2))) else ((shape_Fold.f a0 a1).bind fun bt330 => (some (bt330.1, bt330.2)))) = some (r1, r2) := H
  have A4 := Aside0.mk A40
  clear A40
  by_cases c5 : t326 > 0
  · rw [if_pos c5] at H
    have c5b0 : decide (0 < t326) = true := decide_eq_true c5
    clear c5
    replace H := Option.bind_eq_some_iff.mp H
    obtain ⟨⟨t328, t329⟩, A60, H⟩ := H
    replace H : (some (t328, t329)) = some (r1, r2) := H
    have A6 := Aside0.mk A60
    clear A60
    simp only [Option.some.injEq, Prod.mk.injEq] at H
    obtain ⟨rfl, rfl⟩ := H
    go_enter Try.func32, Try.ntmps32
    go_wp2_with (first | ((with_reducible refine gC (f := 18) rfl ?_); refine goesY_ (some 14) Try.func18 #[.int .i64 a0, .int .u64 a1, .int .u64 a2] ?_; (with_reducible refine (order_Cmp.calls a0 a1 a2 t326 t327 _ A4.out).mono ?_); rintro e w' ⟨rfl, ⟨nd, rfl⟩⟩; refine ⟨_, rfl, ?_⟩; (try simp only [errW_none, errW_some])) | ((with_reducible refine gC (f := 60) rfl ?_); refine goesY_ (some 22) Try.func60 #[.int .i64 a0, .int .u64 a2] ?_; (with_reducible refine (shape_Fold.calls a0 a2 t328 t329 _ A6.out).mono ?_); rintro e w' ⟨rfl, ⟨nd, rfl⟩⟩; refine ⟨_, rfl, ?_⟩; (try simp only [errW_none, errW_some])))
    go_ret2
    exact ⟨by first | rfl | (simp; done) | (simp [*]; done), by repeat (first | exact Drawn0.refl _ | apply Drawn0.step)⟩
  · rw [if_neg c5] at H
    have c5b0 : decide (0 < t326) = false := decide_eq_false c5
    clear c5
    replace H := Option.bind_eq_some_iff.mp H
    obtain ⟨⟨t330, t331⟩, A70, H⟩ := H
    replace H : (some (t330, t331)) = some (r1, r2) := H
    have A7 := Aside0.mk A70
    clear A70
    simp only [Option.some.injEq, Prod.mk.injEq] at H
    obtain ⟨rfl, rfl⟩ := H
    go_enter Try.func32, Try.ntmps32
    go_wp2_with (first | ((with_reducible refine gC (f := 18) rfl ?_); refine goesY_ (some 14) Try.func18 #[.int .i64 a0, .int .u64 a1, .int .u64 a2] ?_; (with_reducible refine (order_Cmp.calls a0 a1 a2 t326 t327 _ A4.out).mono ?_); rintro e w' ⟨rfl, ⟨nd, rfl⟩⟩; refine ⟨_, rfl, ?_⟩; (try simp only [errW_none, errW_some])) | ((with_reducible refine gC (f := 60) rfl ?_); refine goesY_ (some 22) Try.func60 #[.int .i64 a0, .int .u64 a1] ?_; (with_reducible refine (shape_Fold.calls a0 a1 t330 t331 _ A7.out).mono ?_); rintro e w' ⟨rfl, ⟨nd, rfl⟩⟩; refine ⟨_, rfl, ?_⟩; (try simp only [errW_none, errW_some])))
    go_ret2
    exact ⟨by first | rfl | (simp; done) | (simp [*]; done), by repeat (first | exact Drawn0.refl _ | apply Drawn0.step)⟩

/-! ### order_Max: function 33 -/
def order_Max.f (a0 : Int) (a1 : Int) (a2 : Int) : Option (Int × Option Int) := (order_Cmp.f a0 a1 a2).bind fun bt332 => (if bt332.1 < 0 then ((shape_Fold.f a0 a2).bind fun bt334 => (some (bt334.1, bt334.2))) else ((shape_Fold.f a0 a1).bind fun bt336 => (some (bt336.1, bt336.2))))
set_option maxHeartbeats 8000000 in
set_option maxRecDepth 100000 in
theorem order_Max.calls (a0 : Int) (a1 : Int) (a2 : Int) (r1 : Int) (r2 : Option Int) (w : World) (h : order_Max.f a0 a1 a2 = some (r1, r2)) :
    Calls Try.prog 33 #[.int .i64 a0, .int .u64 a1, .int .u64 a2] w fun e w' => e = .returned (.tuple #[.int .u64 r1, errW r2]) ∧ Drawn0 w w' := by
  have H : ((order_Cmp.f a0 a1 a2).bind fun bt332 => (if bt332.1 < 0 then ((shape_Fold.f a0 a2).bind fun bt334 => (some (bt334.1, bt334.2))) else ((shape_Fold.f a0 a1).bind fun bt336 => (some (bt336.1, bt336.2))))) = some (r1, r2) := h
  clear h
  replace H := Option.bind_eq_some_iff.mp H
  obtain ⟨⟨t332, t333⟩, A40, H⟩ := H
  replace H : (if t332 < 0 then ((shape_Fold.f a0 a2).bind fun bt334 => (some (bt334.1, bt334.2))) else ((shape_Fold.f a0 a1).bind fun bt336 => (some (bt336.1, bt336.2)))) = some (r1, r2) := H
  have A4 := Aside0.mk A40
  clear A40
  by_cases c5 : t332 < 0
  · rw [if_pos c5] at H
    have c5b0 : decide (t332 < 0) = true := decide_eq_true c5
    clear c5
    replace H := Option.bind_eq_some_iff.mp H
    obtain ⟨⟨t334, t335⟩, A60, H⟩ := H
    replace H : (some (t334, t335)) = some (r1, r2) := H
    have A6 := Aside0.mk A60
    clear A60
    simp only [Option.some.injEq, Prod.mk.injEq] at H
    obtain ⟨rfl, rfl⟩ := H
    go_enter Try.func33, Try.ntmps33
    go_wp2_with (first | ((with_reducible refine gC (f := 18) rfl ?_); refine goesY_ (some 14) Try.func18 #[.int .i64 a0, .int .u64 a1, .int .u64 a2] ?_; (with_reducible refine (order_Cmp.calls a0 a1 a2 t332 t333 _ A4.out).mono ?_); rintro e w' ⟨rfl, ⟨nd, rfl⟩⟩; refine ⟨_, rfl, ?_⟩; (try simp only [errW_none, errW_some])) | ((with_reducible refine gC (f := 60) rfl ?_); refine goesY_ (some 22) Try.func60 #[.int .i64 a0, .int .u64 a2] ?_; (with_reducible refine (shape_Fold.calls a0 a2 t334 t335 _ A6.out).mono ?_); rintro e w' ⟨rfl, ⟨nd, rfl⟩⟩; refine ⟨_, rfl, ?_⟩; (try simp only [errW_none, errW_some])))
    go_ret2
    exact ⟨by first | rfl | (simp; done) | (simp [*]; done), by repeat (first | exact Drawn0.refl _ | apply Drawn0.step)⟩
  · rw [if_neg c5] at H
    have c5b0 : decide (t332 < 0) = false := decide_eq_false c5
    clear c5
    replace H := Option.bind_eq_some_iff.mp H
    obtain ⟨⟨t336, t337⟩, A70, H⟩ := H
    replace H : (some (t336, t337)) = some (r1, r2) := H
    have A7 := Aside0.mk A70
    clear A70
    simp only [Option.some.injEq, Prod.mk.injEq] at H
    obtain ⟨rfl, rfl⟩ := H
    go_enter Try.func33, Try.ntmps33
    go_wp2_with (first | ((with_reducible refine gC (f := 18) rfl ?_); refine goesY_ (some 14) Try.func18 #[.int .i64 a0, .int .u64 a1, .int .u64 a2] ?_; (with_reducible refine (order_Cmp.calls a0 a1 a2 t332 t333 _ A4.out).mono ?_); rintro e w' ⟨rfl, ⟨nd, rfl⟩⟩; refine ⟨_, rfl, ?_⟩; (try simp only [errW_none, errW_some])) | ((with_reducible refine gC (f := 60) rfl ?_); refine goesY_ (some 22) Try.func60 #[.int .i64 a0, .int .u64 a1] ?_; (with_reducible refine (shape_Fold.calls a0 a1 t336 t337 _ A7.out).mono ?_); rintro e w' ⟨rfl, ⟨nd, rfl⟩⟩; refine ⟨_, rfl, ?_⟩; (try simp only [errW_none, errW_some])))
    go_ret2
    exact ⟨by first | rfl | (simp; done) | (simp [*]; done), by repeat (first | exact Drawn0.refl _ | apply Drawn0.step)⟩

/-! ### order_Abs: function 36 -/
def order_Abs.f (a0 : Int) (a1 : Int) : Option (Int × Option Int) := (shape_Rank.f a0 a1).bind fun bt357 => (if bt357.1 < 0 then ((shape_Fold.f a0 (IntKind.u64.wrap (-a1))).bind fun bt359 => (some (bt359.1, bt359.2))) else ((shape_Fold.f a0 a1).bind fun bt361 => (some (bt361.1, bt361.2))))
set_option maxHeartbeats 8000000 in
set_option maxRecDepth 100000 in
theorem order_Abs.calls (a0 : Int) (a1 : Int) (r1 : Int) (r2 : Option Int) (w : World) (h : order_Abs.f a0 a1 = some (r1, r2)) :
    Calls Try.prog 36 #[.int .i64 a0, .int .u64 a1] w fun e w' => e = .returned (.tuple #[.int .u64 r1, errW r2]) ∧ Drawn0 w w' := by
  have H : ((shape_Rank.f a0 a1).bind fun bt357 => (if bt357.1 < 0 then ((shape_Fold.f a0 (IntKind.u64.wrap (-a1))).bind fun bt359 => (some (bt359.1, bt359.2))) else ((shape_Fold.f a0 a1).bind fun bt361 => (some (bt361.1, bt361.2))))) = some (r1, r2) := h
  clear h
  replace H := Option.bind_eq_some_iff.mp H
  obtain ⟨⟨t357, t358⟩, A30, H⟩ := H
  replace H : (if t357 < 0 then ((shape_Fold.f a0 (IntKind.u64.wrap (-a1))).bind fun bt359 => (some (bt359.1, bt359.2))) else ((shape_Fold.f a0 a1).bind fun bt361 => (some (bt361.1, bt361.2)))) = some (r1, r2) := H
  have A3 := Aside0.mk A30
  clear A30
  by_cases c4 : t357 < 0
  · rw [if_pos c4] at H
    have c4b0 : decide (t357 < 0) = true := decide_eq_true c4
    clear c4
    replace H := Option.bind_eq_some_iff.mp H
    obtain ⟨⟨t359, t360⟩, A50, H⟩ := H
    replace H : (some (t359, t360)) = some (r1, r2) := H
    have A5 := Aside0.mk A50
    clear A50
    simp only [Option.some.injEq, Prod.mk.injEq] at H
    obtain ⟨rfl, rfl⟩ := H
    go_enter Try.func36, Try.ntmps36
    go_wp2_with (first | ((with_reducible refine gC (f := 56) rfl ?_); refine goesY_ (some 11) Try.func56 #[.int .i64 a0, .int .u64 a1] ?_; (with_reducible refine (shape_Rank.calls a0 a1 t357 t358 _ A3.out).mono ?_); rintro e w' ⟨rfl, ⟨nd, rfl⟩⟩; refine ⟨_, rfl, ?_⟩; (try simp only [errW_none, errW_some])) | ((with_reducible refine gC (f := 60) rfl ?_); refine goesY_ (some 20) Try.func60 #[.int .i64 a0, .int .u64 (IntKind.u64.wrap (-a1))] ?_; (with_reducible refine (shape_Fold.calls a0 (IntKind.u64.wrap (-a1)) t359 t360 _ A5.out).mono ?_); rintro e w' ⟨rfl, ⟨nd, rfl⟩⟩; refine ⟨_, rfl, ?_⟩; (try simp only [errW_none, errW_some])))
    go_ret2
    exact ⟨by first | rfl | (simp; done) | (simp [*]; done), by repeat (first | exact Drawn0.refl _ | apply Drawn0.step)⟩
  · rw [if_neg c4] at H
    have c4b0 : decide (t357 < 0) = false := decide_eq_false c4
    clear c4
    replace H := Option.bind_eq_some_iff.mp H
    obtain ⟨⟨t361, t362⟩, A60, H⟩ := H
    replace H : (some (t361, t362)) = some (r1, r2) := H
    have A6 := Aside0.mk A60
    clear A60
    simp only [Option.some.injEq, Prod.mk.injEq] at H
    obtain ⟨rfl, rfl⟩ := H
    go_enter Try.func36, Try.ntmps36
    go_wp2_with (first | ((with_reducible refine gC (f := 56) rfl ?_); refine goesY_ (some 11) Try.func56 #[.int .i64 a0, .int .u64 a1] ?_; (with_reducible refine (shape_Rank.calls a0 a1 t357 t358 _ A3.out).mono ?_); rintro e w' ⟨rfl, ⟨nd, rfl⟩⟩; refine ⟨_, rfl, ?_⟩; (try simp only [errW_none, errW_some])) | ((with_reducible refine gC (f := 60) rfl ?_); refine goesY_ (some 20) Try.func60 #[.int .i64 a0, .int .u64 a1] ?_; (with_reducible refine (shape_Fold.calls a0 a1 t361 t362 _ A6.out).mono ?_); rintro e w' ⟨rfl, ⟨nd, rfl⟩⟩; refine ⟨_, rfl, ?_⟩; (try simp only [errW_none, errW_some])))
    go_ret2
    exact ⟨by first | rfl | (simp; done) | (simp [*]; done), by repeat (first | exact Drawn0.refl _ | apply Drawn0.step)⟩

/-! ### order_Sign: function 37 -/
def order_Sign.f (a0 : Int) (a1 : Int) : Option (Int × Option Int) := (shape_Kind.f a0 a1).bind fun bt366 => (if bt366.2.isNone = true then (if bt366.1 = 2 then (some (0, some 9)) else ((order_Cmp.f a0 a1 0).bind fun bt369 => (some (bt369.1, bt369.2)))) else (some (0, some (bt366.2.getD 0))))
set_option maxHeartbeats 8000000 in
set_option maxRecDepth 100000 in
theorem order_Sign.calls (a0 : Int) (a1 : Int) (r1 : Int) (r2 : Option Int) (w : World) (h : order_Sign.f a0 a1 = some (r1, r2)) :
    Calls Try.prog 37 #[.int .i64 a0, .int .u64 a1] w fun e w' => e = .returned (.tuple #[.int .i64 r1, errW r2]) ∧ Drawn0 w w' := by
  have hu25 := Try.underlying25
  have hu33 := Try.underlying33
  have H : ((shape_Kind.f a0 a1).bind fun bt366 => (if bt366.2.isNone = true then (if bt366.1 = 2 then (some (0, some 9)) else ((order_Cmp.f a0 a1 0).bind fun bt369 => (some (bt369.1, bt369.2)))) else (some (0, some (bt366.2.getD 0))))) = some (r1, r2) := h
  clear h
  replace H := Option.bind_eq_some_iff.mp H
  obtain ⟨⟨t366, t367⟩, A30, H⟩ := H
  replace H : (if t367.isNone = true then (if t366 = 2 then (some (0, some 9)) else ((order_Cmp.f a0 a1 0).bind fun bt369 => (some (bt369.1, bt369.2)))) else (some (0, some (t367.getD 0)))) = some (r1, r2) := H
  have A3 := Aside0.mk A30
  clear A30
  rcases t367 with _ | q368
  · have H1 : (if t366 = 2 then (some (0, some 9)) else ((order_Cmp.f a0 a1 0).bind fun bt369 => (some (bt369.1, bt369.2)))) = some (r1, r2) := by rw [if_pos (show (none : Option Int).isNone = true by rfl)] at H; exact H
    clear H
    have H := H1
    clear H1
    try simp only [errW_none, errW_some]
    by_cases c4 : t366 = 2
    · rw [if_pos c4] at H
      have c4b0 : (t366 == 2) = true := beq_iff_eq.mpr c4
      have c4b1 : (t366 != 2) = false := bne_eq_false_iff_eq.mpr c4
      clear c4
      simp only [Option.some.injEq, Prod.mk.injEq] at H
      obtain ⟨rfl, rfl⟩ := H
      go_enter Try.func37, Try.ntmps37
      go_wp2_with (first | ((with_reducible refine gC (f := 67) rfl ?_); refine goesY_ (some 11) Try.func67 #[.int .i64 a0, .int .u64 a1] ?_; (with_reducible refine (shape_Kind.calls a0 a1 t366 none _ A3.out).mono ?_); rintro e w' ⟨rfl, ⟨nd, rfl⟩⟩; refine ⟨_, rfl, ?_⟩; (try simp only [errW_none, errW_some])))
      go_ret2
      exact ⟨by first | rfl | (simp; done) | (simp [*]; done), by repeat (first | exact Drawn0.refl _ | apply Drawn0.step)⟩
    · rw [if_neg c4] at H
      have c4b0 : (t366 == 2) = false := beq_eq_false_iff_ne.mpr c4
      have c4b1 : (t366 != 2) = true := bne_iff_ne.mpr c4
      replace H := Option.bind_eq_some_iff.mp H
      obtain ⟨⟨t369, t370⟩, A50, H⟩ := H
      replace H : (some (t369, t370)) = some (r1, r2) := H
      have A5 := Aside0.mk A50
      clear A50
      simp only [Option.some.injEq, Prod.mk.injEq] at H
      obtain ⟨rfl, rfl⟩ := H
      go_enter Try.func37, Try.ntmps37
      go_wp2_with (first | ((with_reducible refine gC (f := 67) rfl ?_); refine goesY_ (some 11) Try.func67 #[.int .i64 a0, .int .u64 a1] ?_; (with_reducible refine (shape_Kind.calls a0 a1 t366 none _ A3.out).mono ?_); rintro e w' ⟨rfl, ⟨nd, rfl⟩⟩; refine ⟨_, rfl, ?_⟩; (try simp only [errW_none, errW_some])) | ((with_reducible refine gC (f := 18) rfl ?_); refine goesY_ (some 24) Try.func18 #[.int .i64 a0, .int .u64 a1, .int .u64 0] ?_; (with_reducible refine (order_Cmp.calls a0 a1 0 t369 t370 _ A5.out).mono ?_); rintro e w' ⟨rfl, ⟨nd, rfl⟩⟩; refine ⟨_, rfl, ?_⟩; (try simp only [errW_none, errW_some])))
      go_ret2
      exact ⟨by first | rfl | (simp; done) | (simp [*]; done), by repeat (first | exact Drawn0.refl _ | apply Drawn0.step)⟩
  · have H1 : (some (0, some q368)) = some (r1, r2) := by rw [if_neg (show ¬ (some q368).isNone = true by simp)] at H; exact H
    clear H
    have H := H1
    clear H1
    try simp only [errW_none, errW_some]
    simp only [Option.some.injEq, Prod.mk.injEq] at H
    obtain ⟨rfl, rfl⟩ := H
    go_enter Try.func37, Try.ntmps37
    go_wp2_with (first | ((with_reducible refine gC (f := 67) rfl ?_); refine goesY_ (some 11) Try.func67 #[.int .i64 a0, .int .u64 a1] ?_; (with_reducible refine (shape_Kind.calls a0 a1 t366 (some q368) _ A3.out).mono ?_); rintro e w' ⟨rfl, ⟨nd, rfl⟩⟩; refine ⟨_, rfl, ?_⟩; (try simp only [errW_none, errW_some])))
    go_ret2
    exact ⟨by first | rfl | (simp; done) | (simp [*]; done), by repeat (first | exact Drawn0.refl _ | apply Drawn0.step)⟩

/-! ### order_Clamp: function 41 -/
def order_Clamp.l0 : Nat → Int → Int → Int → Int → List Int → Int → Int → Option (Int × Option Int)
  | 0, _, _, _, _, _, _, _ => none
  | k + 1, x0, x1, x2, x3, x19, x20, x21 => if x21 < x20 then (if 0 ≤ x21 then (if x21 < (x19.length : Int) then ((shape_Kind.f x0 (rd x19 x21)).bind fun bt403 => (if bt403.2.isNone = true then (if bt403.1 = 2 then (some (0, some 9)) else (order_Clamp.l0 k x0 x1 x2 x3 x19 x20 (wrap64 (x21 + 1)))) else (some (0, some (bt403.2.getD 0))))) else (none)) else (none)) else ((order_Cmp.f x0 x2 x3).bind fun bt406 => (if bt406.1 > 0 then (some (0, some 1)) else ((order_Max.f x0 x1 x2).bind fun bt408 => ((order_Min.f x0 bt408.1 x3).bind fun bt410 => (some (bt410.1, bt410.2))))))
def order_Clamp.f (k : Nat) (a0 : Int) (a1 : Int) (a2 : Int) (a3 : Int) : Option (Int × Option Int) := (some (([a1, a2, a3] : List Int) : List Int)).bind fun y399 => (order_Clamp.l0 k a0 a1 a2 a3 y399 (y399.length : Int) 0)
theorem order_Clamp.mono_l : ∀ k, (∀ y0 y1 y2 y3 y4 y5 y6, LeO (order_Clamp.l0 k y0 y1 y2 y3 y4 y5 y6) (order_Clamp.l0 (k + 1) y0 y1 y2 y3 y4 y5 y6))
  | 0 => fun _ _ _ _ _ _ _ r h => by simp [order_Clamp.l0] at h
  | k + 1 => by
    have ih0 := order_Clamp.mono_l k
    · intro y0 y1 y2 y3 y4 y5 y6
      unfold order_Clamp.l0
      repeat' first
      | (with_reducible exact ih0 _ _ _ _ _ _ _)
      | (with_reducible exact LeO.refl _)
      | (with_reducible exact LeO.none _)
      | (with_reducible refine LeO.ite ?_ ?_)
      | (with_reducible refine LeO.bind ?_ (fun _ => ?_))
      | exact ih0 _ _ _ _ _ _ _
      | exact LeO.none _
      | refine LeO.ite ?_ ?_
      | refine LeO.bind ?_ (fun _ => ?_)
theorem order_Clamp.mono : ∀ a0 a1 a2 a3 k, LeO (order_Clamp.f k a0 a1 a2 a3) (order_Clamp.f (k + 1) a0 a1 a2 a3) := by
  intro a0 a1 a2 a3 k
  have ih0 := order_Clamp.mono_l k
  unfold order_Clamp.f
  repeat' first
      | (with_reducible exact ih0 _ _ _ _ _ _ _)
      | (with_reducible exact LeO.refl _)
      | (with_reducible exact LeO.none _)
      | (with_reducible refine LeO.ite ?_ ?_)
      | (with_reducible refine LeO.bind ?_ (fun _ => ?_))
      | exact ih0 _ _ _ _ _ _ _
      | exact LeO.none _
      | refine LeO.ite ?_ ?_
      | refine LeO.bind ?_ (fun _ => ?_)
set_option maxHeartbeats 8000000 in
set_option maxRecDepth 100000 in
theorem order_Clamp.calls (k : Nat) (a0 : Int) (a1 : Int) (a2 : Int) (a3 : Int) (r1 : Int) (r2 : Option Int) (w : World) (h : order_Clamp.f k a0 a1 a2 a3 = some (r1, r2)) :
    Calls Try.prog 41 #[.int .i64 a0, .int .u64 a1, .int .u64 a2, .int .u64 a3] w fun e w' => e = .returned (.tuple #[.int .u64 r1, errW r2]) ∧ Below w.heap.size w w' := by
  have hu25 := Try.underlying25
  have hu33 := Try.underlying33
  have HB := Aside0.mk (Below.refl w.heap.size w)
  have H : ((some (([a1, a2, a3] : List Int) : List Int)).bind fun y399 => (order_Clamp.l0 k a0 a1 a2 a3 y399 (y399.length : Int) 0)) = some (r1, r2) := h
  clear h
  obtain ⟨y399, hy399⟩ : ∃ y_ : List Int, y_ = (([a1, a2, a3] : List Int)) := ⟨_, rfl⟩
  replace H : (order_Clamp.l0 k a0 a1 a2 a3 y399 (y399.length : Int) 0) = some (r1, r2) := by first | (rw [hy399]; with_reducible exact H) | (have H2_ := (Option.bind_some _ _).symm.trans H; rw [hy399]; with_reducible exact H2_) | (have H2_ := (Option.bind_some _ _).symm.trans H; with_reducible exact H2_) | with_reducible exact H | (rw [hy399]; exact H) | exact H
  have Ny399 := Aside0.mk hy399
  clear hy399
  have H' := Aside0.mk H
  clear H
  go_enter Try.func41, Try.ntmps41
  go_wp2_with (first | ((with_reducible refine gD (N := 19) rfl ?_); refine Kd.R_lit (Kd.int .u64) _ 22 ?hg (N := 19) ?hd (xs := ([a1, a2, a3] : List Int)) (inner := [.int .u64 a1, .int .u64 a2, .int .u64 a3]) (ok := fun _ => True) (okp := fun _ => True) ?hr ?hp (fun _ hk => hk) trivial (Below.refl _ _) (Nat.le_refl _) (by simp) ?_; (case hd => rfl); (case hg => rfl); (case hr => first | (go_simp; done) | (go_simp; rfl)); (case hp => exact (Reps.one (show Kd.M (Kd.int .u64) _ _ _ a1 [.int .u64 a1] from rfl) (Reps.one (show Kd.M (Kd.int .u64) _ _ _ a2 [.int .u64 a2] from rfl) (Reps.one (show Kd.M (Kd.int .u64) _ _ _ a3 [.int .u64 a3] from rfl) (Reps.none _ _))))); intro v400 w5 ho6 hb hg_ hnew_; clear hg_ hnew_; (first | rw [← Ny399.out] at ho6 | (simp only [Int.reduceToNat] at ho6; rw [← Ny399.out] at ho6)); have n0_ := Aside0.mk (Kd.R_lower ho6 (bZ (by repeat (first | (with_reducible first | exact HB.out | apply pA | apply pN | apply p1) | exact HB.out)))); have n1_ := Aside0.mk (bS3 HB.out hb); clear HB; have HO401 := n0_; have HB := n1_; clear n0_ n1_; clear hb ho6; obtain ⟨Ao7, co7, eo7⟩ := Kd.R_slice HO401.out; subst eo7))
  go_loopg [21] k (fun kq v21 w' => ∃ (x21_1 : Int), v21 = .int .i64 x21_1 ∧ Aside0 (order_Clamp.l0 kq a0 a1 a2 a3 y399 (y399.length : Int) x21_1 = some (r1, r2)) ∧ Aside0 (kq ≤ k) ∧ Aside0 (Kd.R (Kd.int .u64) 22 w' w.heap.size (fun _ => True) (.slice Ao7 y399.length co7) y399) ∧ Aside0 (Below w.heap.size w w'))
  case atStart => exact ⟨(0), (by first | rfl | (simp; done) | (simp [*]; done)), H', ⟨Nat.le_refl _⟩, ⟨by (with_reducible repeat (first | apply Kd.R_alloc | apply Kd.R_drewN | apply Kd.R_drew)); exact HO401.out⟩, ⟨by repeat (first | (with_reducible first | exact HB.out | apply pA | apply pN | apply p1) | exact HB.out)⟩⟩
  case round =>
    clear H'
    try clear p2
    try clear c4
    obtain ⟨x21_1, rfl, HA, HK1, HO_19, HB⟩ := hrel
    cases gk with
    | zero => exact absurd HA.out (by simp [order_Clamp.l0])
    | succ k1 =>
      have H := HA.out
      clear HA
      simp only [order_Clamp.l0] at H
      by_cases c8 : x21_1 < (y399.length : Int)
      · rw [if_pos c8] at H
        have c8b0 : decide (x21_1 < (y399.length : Int)) = true := decide_eq_true c8
        clear c8
        by_cases c9 : 0 ≤ x21_1
        · rw [if_pos c9] at H
          have c9b0 : decide (0 ≤ x21_1) = true := decide_eq_true c9
          clear c9
          by_cases c10 : x21_1 < (y399.length : Int)
          · rw [if_pos c10] at H
            have c10b0 : decide (x21_1 < (y399.length : Int)) = true := decide_eq_true c10
            clear c10
            replace H := Option.bind_eq_some_iff.mp H
            obtain ⟨⟨t403, t404⟩, A110, H⟩ := H
            replace H : (if t404.isNone = true then (if t403 = 2 then (some (0, some 9)) else (order_Clamp.l0 k1 a0 a1 a2 a3 y399 (y399.length : Int) (wrap64 (x21_1 + 1)))) else (some (0, some (t404.getD 0)))) = some (r1, r2) := H
            have A11 := Aside0.mk A110
            clear A110
            rcases t404 with _ | q405
            · have H1 : (if t403 = 2 then (some (0, some 9)) else (order_Clamp.l0 k1 a0 a1 a2 a3 y399 (y399.length : Int) (wrap64 (x21_1 + 1)))) = some (r1, r2) := by rw [if_pos (show (none : Option Int).isNone = true by rfl)] at H; exact H
              clear H
              have H := H1
              clear H1
              try simp only [errW_none, errW_some]
              by_cases c12 : t403 = 2
              · rw [if_pos c12] at H
                have c12b0 : (t403 == 2) = true := beq_iff_eq.mpr c12
                have c12b1 : (t403 != 2) = false := bne_eq_false_iff_eq.mpr c12
                clear c12
                simp only [Option.some.injEq, Prod.mk.injEq] at H
                obtain ⟨rfl, rfl⟩ := H
                have p402 : 0 ≤ (x21_1 : Int) := of_decide_eq_true (by first | (with_reducible assumption) | assumption)
                have q402 : x21_1 < (y399.length : Int) := of_decide_eq_true (by first | (with_reducible assumption) | assumption)
                obtain ⟨ad402, e402, hx402_0⟩ := Kd.at_int (Kd.R_reads' HO_19.out).2.2 x21_1 p402 q402
                cases e402
                replace p402 := eq_true p402
                replace q402 := eq_true q402
                go_wp2_with (first | ((with_reducible refine gC (f := 67) rfl ?_); refine goesY_ (some 28) Try.func67 #[.int .i64 a0, .int .u64 (rd y399 x21_1)] ?_; (with_reducible refine (shape_Kind.calls a0 (rd y399 x21_1) t403 none _ A11.out).mono ?_); rintro e w' ⟨rfl, ⟨nd, rfl⟩⟩; refine ⟨_, rfl, ?_⟩; (try simp only [errW_none, errW_some])))
                go_ret2
                exact ⟨by first | rfl | (simp [errW_none, errW_some] <;> rfl) | (simp [*, errW_none, errW_some] <;> rfl), by repeat (first | (with_reducible first | exact HB.out | apply pA | apply pN | apply p1) | exact HB.out)⟩
              · rw [if_neg c12] at H
                have c12b0 : (t403 == 2) = false := beq_eq_false_iff_ne.mpr c12
                have c12b1 : (t403 != 2) = true := bne_iff_ne.mpr c12
                have H' := Aside0.mk H
                clear H
                have p402 : 0 ≤ (x21_1 : Int) := of_decide_eq_true (by first | (with_reducible assumption) | assumption)
                have q402 : x21_1 < (y399.length : Int) := of_decide_eq_true (by first | (with_reducible assumption) | assumption)
                obtain ⟨ad402, e402, hx402_0⟩ := Kd.at_int (Kd.R_reads' HO_19.out).2.2 x21_1 p402 q402
                cases e402
                replace p402 := eq_true p402
                replace q402 := eq_true q402
                go_wp2_with (first | ((with_reducible refine gC (f := 67) rfl ?_); refine goesY_ (some 28) Try.func67 #[.int .i64 a0, .int .u64 (rd y399 x21_1)] ?_; (with_reducible refine (shape_Kind.calls a0 (rd y399 x21_1) t403 none _ A11.out).mono ?_); rintro e w' ⟨rfl, ⟨nd, rfl⟩⟩; refine ⟨_, rfl, ?_⟩; (try simp only [errW_none, errW_some])))
                go_roundg k1
                case measure => have := HK1.out; omega
                case rel => exact ⟨(wrap64 (x21_1 + 1)), (by first | rfl | (simp; done) | (simp [*]; done)), H', ⟨by have := HK1.out; omega⟩, ⟨by (with_reducible repeat (first | apply Kd.R_alloc | apply Kd.R_drewN | apply Kd.R_drew)); exact HO_19.out⟩, ⟨by repeat (first | (with_reducible first | exact HB.out | apply pA | apply pN | apply p1) | exact HB.out)⟩⟩
            · have H1 : (some (0, some q405)) = some (r1, r2) := by rw [if_neg (show ¬ (some q405).isNone = true by simp)] at H; exact H
              clear H
              have H := H1
              clear H1
              try simp only [errW_none, errW_some]
              simp only [Option.some.injEq, Prod.mk.injEq] at H
              obtain ⟨rfl, rfl⟩ := H
              have p402 : 0 ≤ (x21_1 : Int) := of_decide_eq_true (by first | (with_reducible assumption) | assumption)
              have q402 : x21_1 < (y399.length : Int) := of_decide_eq_true (by first | (with_reducible assumption) | assumption)
              obtain ⟨ad402, e402, hx402_0⟩ := Kd.at_int (Kd.R_reads' HO_19.out).2.2 x21_1 p402 q402
              cases e402
              replace p402 := eq_true p402
              replace q402 := eq_true q402
              go_wp2_with (first | ((with_reducible refine gC (f := 67) rfl ?_); refine goesY_ (some 28) Try.func67 #[.int .i64 a0, .int .u64 (rd y399 x21_1)] ?_; (with_reducible refine (shape_Kind.calls a0 (rd y399 x21_1) t403 (some q405) _ A11.out).mono ?_); rintro e w' ⟨rfl, ⟨nd, rfl⟩⟩; refine ⟨_, rfl, ?_⟩; (try simp only [errW_none, errW_some])))
              go_ret2
              exact ⟨by first | rfl | (simp [errW_none, errW_some] <;> rfl) | (simp [*, errW_none, errW_some] <;> rfl), by repeat (first | (with_reducible first | exact HB.out | apply pA | apply pN | apply p1) | exact HB.out)⟩
          · rw [if_neg c10] at H
            exact absurd H (by simp)
        · rw [if_neg c9] at H
          exact absurd H (by simp)
      · rw [if_neg c8] at H
        have c8b0 : decide (x21_1 < (y399.length : Int)) = false := decide_eq_false c8
        clear c8
        replace H := Option.bind_eq_some_iff.mp H
        obtain ⟨⟨t406, t407⟩, A130, H⟩ := H
        replace H : (if t406 > 0 then (some (0, some 1)) else ((order_Max.f a0 a1 a2).bind fun bt408 => ((order_Min.f a0 bt408.1 a3).bind fun bt410 => (some (bt410.1, bt410.2))))) = some (r1, r2) := H
        have A13 := Aside0.mk A130
        clear A130
        by_cases c14 : t406 > 0
        · rw [if_pos c14] at H
          have c14b0 : decide (0 < t406) = true := decide_eq_true c14
          clear c14
          simp only [Option.some.injEq, Prod.mk.injEq] at H
          obtain ⟨rfl, rfl⟩ := H
          go_wp2_with (first | ((with_reducible refine gC (f := 18) rfl ?_); refine goesY_ (some 42) Try.func18 #[.int .i64 a0, .int .u64 a2, .int .u64 a3] ?_; (with_reducible refine (order_Cmp.calls a0 a2 a3 t406 t407 _ A13.out).mono ?_); rintro e w' ⟨rfl, ⟨nd, rfl⟩⟩; refine ⟨_, rfl, ?_⟩; (try simp only [errW_none, errW_some])))
          go_ret2
          exact ⟨by first | rfl | (simp [errW_none, errW_some] <;> rfl) | (simp [*, errW_none, errW_some] <;> rfl), by repeat (first | (with_reducible first | exact HB.out | apply pA | apply pN | apply p1) | exact HB.out)⟩
        · rw [if_neg c14] at H
          have c14b0 : decide (0 < t406) = false := decide_eq_false c14
          clear c14
          replace H := Option.bind_eq_some_iff.mp H
          obtain ⟨⟨t408, t409⟩, A150, H⟩ := H
          replace H : ((order_Min.f a0 t408 a3).bind fun bt410 => (some (bt410.1, bt410.2))) = some (r1, r2) := H
          have A15 := Aside0.mk A150
          clear A150
          replace H := Option.bind_eq_some_iff.mp H
          obtain ⟨⟨t410, t411⟩, A160, H⟩ := H
          replace H : (some (t410, t411)) = some (r1, r2) := H
          have A16 := Aside0.mk A160
          clear A160
          simp only [Option.some.injEq, Prod.mk.injEq] at H
          obtain ⟨rfl, rfl⟩ := H
          go_wp2_with (first | ((with_reducible refine gC (f := 18) rfl ?_); refine goesY_ (some 42) Try.func18 #[.int .i64 a0, .int .u64 a2, .int .u64 a3] ?_; (with_reducible refine (order_Cmp.calls a0 a2 a3 t406 t407 _ A13.out).mono ?_); rintro e w' ⟨rfl, ⟨nd, rfl⟩⟩; refine ⟨_, rfl, ?_⟩; (try simp only [errW_none, errW_some])) | ((with_reducible refine gC (f := 33) rfl ?_); refine goesY_ (some 52) Try.func33 #[.int .i64 a0, .int .u64 a1, .int .u64 a2] ?_; (with_reducible refine (order_Max.calls a0 a1 a2 t408 t409 _ A15.out).mono ?_); rintro e w' ⟨rfl, ⟨nd, rfl⟩⟩; refine ⟨_, rfl, ?_⟩; (try simp only [errW_none, errW_some])) | ((with_reducible refine gC (f := 32) rfl ?_); refine goesY_ (some 58) Try.func32 #[.int .i64 a0, .int .u64 t408, .int .u64 a3] ?_; (with_reducible refine (order_Min.calls a0 t408 a3 t410 t411 _ A16.out).mono ?_); rintro e w' ⟨rfl, ⟨nd, rfl⟩⟩; refine ⟨_, rfl, ?_⟩; (try simp only [errW_none, errW_some])))
          go_ret2
          exact ⟨by first | rfl | (simp [errW_none, errW_some] <;> rfl) | (simp [*, errW_none, errW_some] <;> rfl), by repeat (first | (with_reducible first | exact HB.out | apply pA | apply pN | apply p1) | exact HB.out)⟩

end Go.Proofs.Yteekhbmffdmgjaa.F
