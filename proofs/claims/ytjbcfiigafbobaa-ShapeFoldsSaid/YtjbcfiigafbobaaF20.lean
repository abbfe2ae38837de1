/- Functions of the given program as plain Lean functions, and for each a proof that the program's call comes to just these answers; no further conditions. (Written by a program of this repo out of the translation.) -/
import Derived.Test.YtjbcfiigafbobaaF0
import Derived.Test.YtjbcfiigafbobaaF2
import Derived.Test.YtjbcfiigafbobaaF19
namespace Go.Proofs.Ytjbcfiigafbobaa.F
open Go.RowKit Go.Proofs.YtjbcfiigafbobaaW.PrintWords Go.Proofs.YtjbcfiigafbobaaW.PrintLast Go.Proofs.YtjbcfiigafbobaaW.PrintMore
attribute [local go_sem high] xor_u64 xor_u32 eqErr29 neErr29 eqErrL29 neErrL29
attribute [local go_sem] max2_int min2_int max_two min_two max_three min_three max_four min_four   -- for this text's walks alone
set_option linter.unusedVariables false
set_option linter.unusedSimpArgs false

attribute [local go_sem high] eqA58
/-! ### vernierlaw05_up: function 39 -/
def vernierlaw05_up.f  : Option (Bool) := (shape_Of.f 8).bind fun bt406 => ((shape_Pattern.f 8 (-1)).bind fun bt413 => (if bt406.2.2.2.2.2.isNone = true then (if bt413.2.isNone = true then (if (bt406.1 == 8 && (bt406.2.1 == 127 && (bt406.2.2.1 == 1 && (bt406.2.2.2.1 == 128 && (bt406.2.2.2.2.1 == 24))))) = true then (some (bt413.1 == 255)) else (some false)) else (some false)) else (some false)))
set_option maxHeartbeats 8000000 in
set_option maxRecDepth 100000 in
theorem vernierlaw05_up.calls  (r : Bool) (w : World) (h : vernierlaw05_up.f  = some r) :
    Calls Try.prog 39 #[] w fun e w' => e = .returned (.bool r) ∧ Below w.heap.size w w' := by
  have hu58 := Try.underlying58
  have hu29 := Try.underlying29
  have hu77 := Try.underlying77
  have HB := Aside0.mk (Below.refl w.heap.size w)
  have H : ((shape_Of.f 8).bind fun bt406 => ((shape_Pattern.f 8 (-1)).bind fun bt413 => (if bt406.2.2.2.2.2.isNone = true then (if bt413.2.isNone = true then (if (bt406.1 == 8 && (bt406.2.1 == 127 && (bt406.2.2.1 == 1 && (bt406.2.2.2.1 == 128 && (bt406.2.2.2.2.1 == 24))))) = true then (some (bt413.1 == 255)) else (some false)) else (some false)) else (some false)))) = some r := h
  clear h
  replace H := Option.bind_eq_some_iff.mp H
  obtain ⟨⟨t406, t407, t408, t409, t410, t411⟩, A10, H⟩ := H
  replace H : ((shape_Pattern.f 8 (-1)).bind fun bt413 => (if t411.isNone = true then (if bt413.2.isNone = true then (if (t406 == 8 && (t407 == 127 && (t408 == 1 && (t409 == 128 && (t410 == 24))))) = true then (some (bt413.1 == 255)) else (some false)) else (some false)) else (some false))) = some r := H
  have A1 := Aside0.mk A10
  clear A10
  replace H := Option.bind_eq_some_iff.mp H
  obtain ⟨⟨t413, t414⟩, A20, H⟩ := H
  replace H : (if t411.isNone = true then (if t414.isNone = true then (if (t406 == 8 && (t407 == 127 && (t408 == 1 && (t409 == 128 && (t410 == 24))))) = true then (some (t413 == 255)) else (some false)) else (some false)) else (some false)) = some r := H
  have A2 := Aside0.mk A20
  clear A20
  rcases t411 with _ | q415
  · have H1 : (if t414.isNone = true then (if (t406 == 8 && (t407 == 127 && (t408 == 1 && (t409 == 128 && (t410 == 24))))) = true then (some (t413 == 255)) else (some false)) else (some false)) = some r := by rw [if_pos (show (none : Option Int).isNone = true by rfl)] at H; exact H
    clear H
    have H := H1
    clear H1
    try simp only [errW_none, errW_some]
    rcases t414 with _ | q416
    · have H1 : (if (t406 == 8 && (t407 == 127 && (t408 == 1 && (t409 == 128 && (t410 == 24))))) = true then (some (t413 == 255)) else (some false)) = some r := by rw [if_pos (show (none : Option Int).isNone = true by rfl)] at H; exact H
      clear H
      have H := H1
      clear H1
      try simp only [errW_none, errW_some]
      by_cases c3 : (t406 == 8 && (t407 == 127 && (t408 == 1 && (t409 == 128 && (t410 == 24))))) = true
      · rw [if_pos c3] at H
        have c3b0 : (t406 == 8 && (t407 == 127 && (t408 == 1 && (t409 == 128 && (t410 == 24))))) = true := c3
        (try (have c3b1 : decide (t406 = 8 && (t407 == 127 && (t408 == 1 && (t409 == 128 && (t410 == 24))))) = true := by simpa using c3))
        (try (have c3b2 : (t406 == 8 && (t407 == 127 && (t408 == 1 && (t409 == 128 && (t410 == 24))))) = true := by simpa using c3))
        clear c3
        obtain rfl := Option.some.inj H
        go_enter Try.func39, Try.ntmps39
        go_wp2_with (first | ((with_reducible refine gC (f := 44) rfl ?_); refine goesY_ (some 6) Try.func44 #[.int .i64 8] ?_; (with_reducible refine (shape_Of.calls 8 t406 t407 t408 t409 t410 none _ A1.out).mono ?_); rintro e w4 ⟨rfl, hb⟩; refine ⟨_, rfl, ?_⟩; have n0_ := Aside0.mk (bS3 HB.out hb); clear HB; have HB := n0_; clear n0_; (try clear hb); (try clear hb2); (try clear hk); (try clear hi); (try simp only [errW_none, errW_some])) | ((with_reducible refine gD (N := 1) rfl ?_); refine bE3 1 #[.int .i64 0, .int .u64 0, .int .u64 0, .int .u64 0, .int .i64 0] 58 ?hr ?_; (case hr => first | (go_simp; done) | (go_simp; rfl)); intro gb412 hg w5 hbox hb; have n0_ := Aside0.mk (bS3 HB.out hb); have n1_ := Aside0.mk (hbox); have n2_ := Aside0.mk ((bZ3 hg HB.out)); have n3_ := Aside0.mk ((bZ3 hg HB.out)); clear HB; have HB := n0_; have BK412 := n1_; have GW412 := n2_; have GE412 := n3_; clear n0_ n1_ n2_ n3_; clear hb hbox hg; have hcz6_0 : w5.cell? ⟨gb412, 0, none⟩ = some (.int .i64 0) := (blk_cell BK412.out 0).trans rfl; have hcz6_1 : w5.cell? ⟨gb412, 1, none⟩ = some (.int .u64 0) := (blk_cell BK412.out 1).trans rfl; have hcz6_2 : w5.cell? ⟨gb412, 2, none⟩ = some (.int .u64 0) := (blk_cell BK412.out 2).trans rfl; have hcz6_3 : w5.cell? ⟨gb412, 3, none⟩ = some (.int .u64 0) := (blk_cell BK412.out 3).trans rfl; have hcz6_4 : w5.cell? ⟨gb412, 4, none⟩ = some (.int .i64 0) := (blk_cell BK412.out 4).trans rfl; have hfz6_0 := blk_frozen BK412.out 0; have hfz6_1 := blk_frozen BK412.out 1; have hfz6_2 := blk_frozen BK412.out 2; have hfz6_3 := blk_frozen BK412.out 3; have hfz6_4 := blk_frozen BK412.out 4) | ((with_reducible refine gC (f := 40) rfl ?_); refine goesY_ (some 10) Try.func40 #[.int .i64 8, .int .i64 (-1)] ?_; (with_reducible refine (shape_Pattern.calls 8 (-1) t413 none _ A2.out).mono ?_); rintro e w' ⟨rfl, ⟨nd, rfl⟩⟩; refine ⟨_, rfl, ?_⟩; (try simp only [errW_none, errW_some])))
        go_ret
        exact ⟨by first | rfl | (simp [errW_none, errW_some] <;> rfl) | (simp [*, errW_none, errW_some] <;> rfl), by repeat (first | (with_reducible first | exact HB.out | apply pA | apply pN | apply p1 | refine pS ?_ GE412.out) | exact HB.out)⟩
      · rw [if_neg c3] at H
        have c3b0 : (t406 == 8 && (t407 == 127 && (t408 == 1 && (t409 == 128 && (t410 == 24))))) = false := by simpa using c3
        (try (have c3b1 : decide (t406 = 8 && (t407 == 127 && (t408 == 1 && (t409 == 128 && (t410 == 24))))) = false := by simpa using c3))
        (try (have c3b2 : (t406 == 8 && (t407 == 127 && (t408 == 1 && (t409 == 128 && (t410 == 24))))) = false := by simpa using c3))
        (try (have c3b3 : ¬ (t406 = 8 && (t407 == 127 && (t408 == 1 && (t409 == 128 && (t410 == 24))))) := by simpa using c3))
        clear c3
        obtain rfl := Option.some.inj H
        go_enter Try.func39, Try.ntmps39
        go_wp2_with (first | ((with_reducible refine gC (f := 44) rfl ?_); refine goesY_ (some 6) Try.func44 #[.int .i64 8] ?_; (with_reducible refine (shape_Of.calls 8 t406 t407 t408 t409 t410 none _ A1.out).mono ?_); rintro e w7 ⟨rfl, hb⟩; refine ⟨_, rfl, ?_⟩; have n0_ := Aside0.mk (bS3 HB.out hb); clear HB; have HB := n0_; clear n0_; (try clear hb); (try clear hb2); (try clear hk); (try clear hi); (try simp only [errW_none, errW_some])) | ((with_reducible refine gD (N := 1) rfl ?_); refine bE3 1 #[.int .i64 0, .int .u64 0, .int .u64 0, .int .u64 0, .int .i64 0] 58 ?hr ?_; (case hr => first | (go_simp; done) | (go_simp; rfl)); intro gb412 hg w8 hbox hb; have n0_ := Aside0.mk (bS3 HB.out hb); have n1_ := Aside0.mk (hbox); have n2_ := Aside0.mk ((bZ3 hg HB.out)); have n3_ := Aside0.mk ((bZ3 hg HB.out)); clear HB; have HB := n0_; have BK412 := n1_; have GW412 := n2_; have GE412 := n3_; clear n0_ n1_ n2_ n3_; clear hb hbox hg; have hcz9_0 : w8.cell? ⟨gb412, 0, none⟩ = some (.int .i64 0) := (blk_cell BK412.out 0).trans rfl; have hcz9_1 : w8.cell? ⟨gb412, 1, none⟩ = some (.int .u64 0) := (blk_cell BK412.out 1).trans rfl; have hcz9_2 : w8.cell? ⟨gb412, 2, none⟩ = some (.int .u64 0) := (blk_cell BK412.out 2).trans rfl; have hcz9_3 : w8.cell? ⟨gb412, 3, none⟩ = some (.int .u64 0) := (blk_cell BK412.out 3).trans rfl; have hcz9_4 : w8.cell? ⟨gb412, 4, none⟩ = some (.int .i64 0) := (blk_cell BK412.out 4).trans rfl; have hfz9_0 := blk_frozen BK412.out 0; have hfz9_1 := blk_frozen BK412.out 1; have hfz9_2 := blk_frozen BK412.out 2; have hfz9_3 := blk_frozen BK412.out 3; have hfz9_4 := blk_frozen BK412.out 4) | ((with_reducible refine gC (f := 40) rfl ?_); refine goesY_ (some 10) Try.func40 #[.int .i64 8, .int .i64 (-1)] ?_; (with_reducible refine (shape_Pattern.calls 8 (-1) t413 none _ A2.out).mono ?_); rintro e w' ⟨rfl, ⟨nd, rfl⟩⟩; refine ⟨_, rfl, ?_⟩; (try simp only [errW_none, errW_some])))
        go_ret
        exact ⟨by first | rfl | (simp [errW_none, errW_some] <;> rfl) | (simp [*, errW_none, errW_some] <;> rfl), by repeat (first | (with_reducible first | exact HB.out | apply pA | apply pN | apply p1 | refine pS ?_ GE412.out) | exact HB.out)⟩
    · have H1 : (some false) = some r := by rw [if_neg (show ¬ (some q416).isNone = true by simp)] at H; exact H
      clear H
      have H := H1
      clear H1
      try simp only [errW_none, errW_some]
      obtain rfl := Option.some.inj H
      go_enter Try.func39, Try.ntmps39
      go_wp2_with (first | ((with_reducible refine gC (f := 44) rfl ?_); refine goesY_ (some 6) Try.func44 #[.int .i64 8] ?_; (with_reducible refine (shape_Of.calls 8 t406 t407 t408 t409 t410 none _ A1.out).mono ?_); rintro e w10 ⟨rfl, hb⟩; refine ⟨_, rfl, ?_⟩; have n0_ := Aside0.mk (bS3 HB.out hb); clear HB; have HB := n0_; clear n0_; (try clear hb); (try clear hb2); (try clear hk); (try clear hi); (try simp only [errW_none, errW_some])) | ((with_reducible refine gD (N := 1) rfl ?_); refine bE3 1 #[.int .i64 0, .int .u64 0, .int .u64 0, .int .u64 0, .int .i64 0] 58 ?hr ?_; (case hr => first | (go_simp; done) | (go_simp; rfl)); intro gb412 hg w11 hbox hb; have n0_ := Aside0.mk (bS3 HB.out hb); have n1_ := Aside0.mk (hbox); have n2_ := Aside0.mk ((bZ3 hg HB.out)); have n3_ := Aside0.mk ((bZ3 hg HB.out)); clear HB; have HB := n0_; have BK412 := n1_; have GW412 := n2_; have GE412 := n3_; clear n0_ n1_ n2_ n3_; clear hb hbox hg; have hcz12_0 : w11.cell? ⟨gb412, 0, none⟩ = some (.int .i64 0) := (blk_cell BK412.out 0).trans rfl; have hcz12_1 : w11.cell? ⟨gb412, 1, none⟩ = some (.int .u64 0) := (blk_cell BK412.out 1).trans rfl; have hcz12_2 : w11.cell? ⟨gb412, 2, none⟩ = some (.int .u64 0) := (blk_cell BK412.out 2).trans rfl; have hcz12_3 : w11.cell? ⟨gb412, 3, none⟩ = some (.int .u64 0) := (blk_cell BK412.out 3).trans rfl; have hcz12_4 : w11.cell? ⟨gb412, 4, none⟩ = some (.int .i64 0) := (blk_cell BK412.out 4).trans rfl; have hfz12_0 := blk_frozen BK412.out 0; have hfz12_1 := blk_frozen BK412.out 1; have hfz12_2 := blk_frozen BK412.out 2; have hfz12_3 := blk_frozen BK412.out 3; have hfz12_4 := blk_frozen BK412.out 4) | ((with_reducible refine gC (f := 40) rfl ?_); refine goesY_ (some 10) Try.func40 #[.int .i64 8, .int .i64 (-1)] ?_; (with_reducible refine (shape_Pattern.calls 8 (-1) t413 (some q416) _ A2.out).mono ?_); rintro e w' ⟨rfl, ⟨nd, rfl⟩⟩; refine ⟨_, rfl, ?_⟩; (try simp only [errW_none, errW_some])))
      go_ret
      exact ⟨by first | rfl | (simp [errW_none, errW_some] <;> rfl) | (simp [*, errW_none, errW_some] <;> rfl), by repeat (first | (with_reducible first | exact HB.out | apply pA | apply pN | apply p1 | refine pS ?_ GE412.out) | exact HB.out)⟩
  · have H1 : (some false) = some r := by rw [if_neg (show ¬ (some q415).isNone = true by simp)] at H; exact H
    clear H
    have H := H1
    clear H1
    try simp only [errW_none, errW_some]
    obtain rfl := Option.some.inj H
    go_enter Try.func39, Try.ntmps39
    go_wp2_with (first | ((with_reducible refine gC (f := 44) rfl ?_); refine goesY_ (some 6) Try.func44 #[.int .i64 8] ?_; (with_reducible refine (shape_Of.calls 8 t406 t407 t408 t409 t410 (some q415) _ A1.out).mono ?_); rintro e w13 ⟨rfl, hb⟩; refine ⟨_, rfl, ?_⟩; have n0_ := Aside0.mk (bS3 HB.out hb); clear HB; have HB := n0_; clear n0_; (try clear hb); (try clear hb2); (try clear hk); (try clear hi); (try simp only [errW_none, errW_some])) | ((with_reducible refine gD (N := 1) rfl ?_); refine bE3 1 #[.int .i64 0, .int .u64 0, .int .u64 0, .int .u64 0, .int .i64 0] 58 ?hr ?_; (case hr => first | (go_simp; done) | (go_simp; rfl)); intro gb412 hg w14 hbox hb; have n0_ := Aside0.mk (bS3 HB.out hb); have n1_ := Aside0.mk (hbox); have n2_ := Aside0.mk ((bZ3 hg HB.out)); have n3_ := Aside0.mk ((bZ3 hg HB.out)); clear HB; have HB := n0_; have BK412 := n1_; have GW412 := n2_; have GE412 := n3_; clear n0_ n1_ n2_ n3_; clear hb hbox hg; have hcz15_0 : w14.cell? ⟨gb412, 0, none⟩ = some (.int .i64 0) := (blk_cell BK412.out 0).trans rfl; have hcz15_1 : w14.cell? ⟨gb412, 1, none⟩ = some (.int .u64 0) := (blk_cell BK412.out 1).trans rfl; have hcz15_2 : w14.cell? ⟨gb412, 2, none⟩ = some (.int .u64 0) := (blk_cell BK412.out 2).trans rfl; have hcz15_3 : w14.cell? ⟨gb412, 3, none⟩ = some (.int .u64 0) := (blk_cell BK412.out 3).trans rfl; have hcz15_4 : w14.cell? ⟨gb412, 4, none⟩ = some (.int .i64 0) := (blk_cell BK412.out 4).trans rfl; have hfz15_0 := blk_frozen BK412.out 0; have hfz15_1 := blk_frozen BK412.out 1; have hfz15_2 := blk_frozen BK412.out 2; have hfz15_3 := blk_frozen BK412.out 3; have hfz15_4 := blk_frozen BK412.out 4) | ((with_reducible refine gC (f := 40) rfl ?_); refine goesY_ (some 10) Try.func40 #[.int .i64 8, .int .i64 (-1)] ?_; (with_reducible refine (shape_Pattern.calls 8 (-1) t413 t414 _ A2.out).mono ?_); rintro e w' ⟨rfl, ⟨nd, rfl⟩⟩; refine ⟨_, rfl, ?_⟩; (try simp only [errW_none, errW_some])))
    go_ret
    exact ⟨by first | rfl | (simp [errW_none, errW_some] <;> rfl) | (simp [*, errW_none, errW_some] <;> rfl), by repeat (first | (with_reducible first | exact HB.out | apply pA | apply pN | apply p1 | refine pS ?_ GE412.out) | exact HB.out)⟩

end Go.Proofs.Ytjbcfiigafbobaa.F
