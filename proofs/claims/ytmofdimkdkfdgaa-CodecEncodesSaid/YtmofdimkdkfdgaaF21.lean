/- Functions of the given program as plain Lean functions, and for each a proof that the program's call comes to just these answers; no further conditions. (Written by a program of this repo out of the translation.) -/
import Derived.Test.YtmofdimkdkfdgaaF0
import Derived.Test.YtmofdimkdkfdgaaF8
import Derived.Test.YtmofdimkdkfdgaaF9
import Derived.Test.YtmofdimkdkfdgaaF13
import Derived.Test.YtmofdimkdkfdgaaF20
namespace Go.Proofs.Ytmofdimkdkfdgaa.F
open Go.RowKit Go.Proofs.YtmofdimkdkfdgaaW.PrintWords Go.Proofs.YtmofdimkdkfdgaaW.PrintLast Go.Proofs.YtmofdimkdkfdgaaW.PrintMore
attribute [local go_sem high] xor_u64 xor_u32 eqErr27 neErr27 eqErrL27 neErrL27
attribute [local go_sem] max2_int min2_int max_two min_two max_three min_three max_four min_four   -- for this text's walks alone
set_option linter.unusedVariables false
set_option linter.unusedSimpArgs false

/-! ### vernierlaw06_CodecEncodes: function 6 -/
def vernierlaw06_CodecEncodes.f (k : Nat) (a0 : Int) (a1_0 : Int) (a1_1 : Bool) (a1_2 : Int) (a1_3 : Int) : Option (Bool) := (vernierlaw06_up.f k).bind fun t380 => ((codec_Encode.f k a0 a1_0 a1_1 a1_2 a1_3).bind fun bt381 => ((vernierref06_Encode.f k a0 a1_0 a1_1 a1_2 a1_3).bind fun bt383 => (if t380 = true then (if bt381.1 = bt383.1 then ((vernierlaw00_Code.f bt381.2).bind fun t385 => (some (t385 == bt383.2))) else (some false)) else (some false))))
theorem vernierlaw06_CodecEncodes.mono : ∀ a0 a1 a2 a3 a4 k, LeO (vernierlaw06_CodecEncodes.f k a0 a1 a2 a3 a4) (vernierlaw06_CodecEncodes.f (k + 1) a0 a1 a2 a3 a4) := by
  intro a0 a1 a2 a3 a4 k
  unfold vernierlaw06_CodecEncodes.f
  repeat' first
      | (with_reducible exact codec_Encode.mono _ _ _ _ _ _)
      | (with_reducible exact vernierlaw06_up.mono _)
      | (with_reducible exact vernierref06_Encode.mono _ _ _ _ _ _)
      | (with_reducible exact LeO.refl _)
      | (with_reducible exact LeO.none _)
      | (with_reducible refine LeO.ite ?_ ?_)
      | (with_reducible refine LeO.bind ?_ (fun _ => ?_))
      | exact codec_Encode.mono _ _ _ _ _ _
      | exact vernierlaw06_up.mono _
      | exact vernierref06_Encode.mono _ _ _ _ _ _
      | exact LeO.none _
      | refine LeO.ite ?_ ?_
      | refine LeO.bind ?_ (fun _ => ?_)
set_option maxHeartbeats 8000000 in
set_option maxRecDepth 100000 in
theorem vernierlaw06_CodecEncodes.calls (k : Nat) (a0 : Int) (a1_0 : Int) (a1_1 : Bool) (a1_2 : Int) (a1_3 : Int) (r : Bool) (w : World) (h : vernierlaw06_CodecEncodes.f k a0 a1_0 a1_1 a1_2 a1_3 = some r) :
    Calls Try.prog 6 #[.int .i64 a0, .agg #[.int .i64 a1_0, .bool a1_1, .int .i64 a1_2, .int .u64 a1_3]] w fun e w' => e = .returned (.bool r) ∧ Below w.heap.size w w' := by
  have hu40 := Try.underlying40
  have HB := Aside0.mk (Below.refl w.heap.size w)
  have H : ((vernierlaw06_up.f k).bind fun t380 => ((codec_Encode.f k a0 a1_0 a1_1 a1_2 a1_3).bind fun bt381 => ((vernierref06_Encode.f k a0 a1_0 a1_1 a1_2 a1_3).bind fun bt383 => (if t380 = true then (if bt381.1 = bt383.1 then ((vernierlaw00_Code.f bt381.2).bind fun t385 => (some (t385 == bt383.2))) else (some false)) else (some false))))) = some r := h
  clear h
  replace H := Option.bind_eq_some_iff.mp H
  obtain ⟨t380, A30, H⟩ := H
  replace H : ((codec_Encode.f k a0 a1_0 a1_1 a1_2 a1_3).bind fun bt381 => ((vernierref06_Encode.f k a0 a1_0 a1_1 a1_2 a1_3).bind fun bt383 => (if t380 = true then (if bt381.1 = bt383.1 then ((vernierlaw00_Code.f bt381.2).bind fun t385 => (some (t385 == bt383.2))) else (some false)) else (some false)))) = some r := H
  have A3 := Aside0.mk A30
  clear A30
  replace H := Option.bind_eq_some_iff.mp H
  obtain ⟨⟨t381, t382⟩, A40, H⟩ := H
  replace H : ((vernierref06_Encode.f k a0 a1_0 a1_1 a1_2 a1_3).bind fun bt383 => (if t380 = true then (if t381 = bt383.1 then ((vernierlaw00_Code.f t382).bind fun t385 => (some (t385 == bt383.2))) else (some false)) else (some false))) = some r := H
  have A4 := Aside0.mk A40
  clear A40
  replace H := Option.bind_eq_some_iff.mp H
  obtain ⟨⟨t383, t384⟩, A50, H⟩ := H
  replace H : (if t380 = true then (if t381 = t383 then ((vernierlaw00_Code.f t382).bind fun t385 => (some (t385 == t384))) else (some false)) else (some false)) = some r := H
  have A5 := Aside0.mk A50
  clear A50
  by_cases c6 : t380 = true
  · subst c6
    have H1 : (if t381 = t383 then ((vernierlaw00_Code.f t382).bind fun t385 => (some (t385 == t384))) else (some false)) = some r := by rw [if_pos rfl] at H; exact H
    clear H
    have H := H1
    clear H1
    by_cases c7 : t381 = t383
    · rw [if_pos c7] at H
      have c7b0 : (t381 == t383) = true := beq_iff_eq.mpr c7
      have c7b1 : (t381 != t383) = false := bne_eq_false_iff_eq.mpr c7
      clear c7
      replace H := Option.bind_eq_some_iff.mp H
      obtain ⟨t385, A80, H⟩ := H
      replace H : (some (t385 == t384)) = some r := H
      have A8 := Aside0.mk A80
      clear A80
      obtain rfl := Option.some.inj H
      go_enter Try.func6, Try.ntmps6
      go_wp2_with (first | ((with_reducible refine gD (N := 3) rfl ?_); refine bE3 3 #[.int .i64 a1_0, .bool a1_1, .int .i64 a1_2, .int .u64 a1_3] 40 ?hr ?_; (case hr => first | (go_simp; done) | (go_simp; rfl)); intro gb379 hg w9 hbox hb; have n0_ := Aside0.mk (bS3 HB.out hb); have n1_ := Aside0.mk (hbox); have n2_ := Aside0.mk ((bZ3 hg HB.out)); have n3_ := Aside0.mk ((bZ3 hg HB.out)); clear HB; have HB := n0_; have BK379 := n1_; have GW379 := n2_; have GE379 := n3_; clear n0_ n1_ n2_ n3_; clear hb hbox hg) | ((with_reducible refine gC (f := 10) rfl ?_); (with_reducible refine gD (N := 10) rfl ?_); refine goesY_ (some 10) Try.func10 #[] ?_; (with_reducible refine (vernierlaw06_up.calls k  true _ A3.out).mono ?_); rintro e w10 ⟨rfl, hb⟩; refine ⟨_, rfl, ?_⟩; have n0_ := Aside0.mk (bB3 BK379.out hb); have n1_ := Aside0.mk (bS3 HB.out hb); clear BK379; clear HB; have BK379 := n0_; have HB := n1_; clear n0_ n1_; (try clear hb); (try clear hb2); (try clear hk); (try clear hi); have hcz11_0 : w10.cell? ⟨gb379, 0, none⟩ = some (.int .i64 a1_0) := (blk_cell BK379.out 0).trans rfl; have hcz11_1 : w10.cell? ⟨gb379, 1, none⟩ = some (.bool a1_1) := (blk_cell BK379.out 1).trans rfl; have hcz11_2 : w10.cell? ⟨gb379, 2, none⟩ = some (.int .i64 a1_2) := (blk_cell BK379.out 2).trans rfl; have hcz11_3 : w10.cell? ⟨gb379, 3, none⟩ = some (.int .u64 a1_3) := (blk_cell BK379.out 3).trans rfl; have hfz11_0 := blk_frozen BK379.out 0; have hfz11_1 := blk_frozen BK379.out 1; have hfz11_2 := blk_frozen BK379.out 2; have hfz11_3 := blk_frozen BK379.out 3) | ((with_reducible refine gC (f := 18) rfl ?_); (with_reducible refine gD (N := 14) rfl ?_); refine goesY_ (some 14) Try.func18 #[.int .i64 a0, .agg #[.int .i64 a1_0, .bool a1_1, .int .i64 a1_2, .int .u64 a1_3]] ?_; (with_reducible refine (codec_Encode.calls k a0 a1_0 a1_1 a1_2 a1_3 t381 t382 _ A4.out).mono ?_); rintro e w12 ⟨rfl, hb⟩; refine ⟨_, rfl, ?_⟩; have n0_ := Aside0.mk (bB3 BK379.out hb); have n1_ := Aside0.mk (bS3 HB.out hb); clear BK379; clear HB; have BK379 := n0_; have HB := n1_; clear n0_ n1_; (try clear hb); (try clear hb2); (try clear hk); (try clear hi); (try simp only [errW_none, errW_some]); have hcz13_0 : w12.cell? ⟨gb379, 0, none⟩ = some (.int .i64 a1_0) := (blk_cell BK379.out 0).trans rfl; have hcz13_1 : w12.cell? ⟨gb379, 1, none⟩ = some (.bool a1_1) := (blk_cell BK379.out 1).trans rfl; have hcz13_2 : w12.cell? ⟨gb379, 2, none⟩ = some (.int .i64 a1_2) := (blk_cell BK379.out 2).trans rfl; have hcz13_3 : w12.cell? ⟨gb379, 3, none⟩ = some (.int .u64 a1_3) := (blk_cell BK379.out 3).trans rfl; have hfz13_0 := blk_frozen BK379.out 0; have hfz13_1 := blk_frozen BK379.out 1; have hfz13_2 := blk_frozen BK379.out 2; have hfz13_3 := blk_frozen BK379.out 3) | ((with_reducible refine gC (f := 19) rfl ?_); (with_reducible refine gD (N := 20) rfl ?_); refine goesY_ (some 20) Try.func19 #[.int .i64 a0, .agg #[.int .i64 a1_0, .bool a1_1, .int .i64 a1_2, .int .u64 a1_3]] ?_; (with_reducible refine (vernierref06_Encode.calls k a0 a1_0 a1_1 a1_2 a1_3 t383 t384 _ A5.out).mono ?_); rintro e w14 ⟨rfl, hb⟩; refine ⟨_, rfl, ?_⟩; have n0_ := Aside0.mk (bB3 BK379.out hb); have n1_ := Aside0.mk (bS3 HB.out hb); clear BK379; clear HB; have BK379 := n0_; have HB := n1_; clear n0_ n1_; (try clear hb); (try clear hb2); (try clear hk); (try clear hi); have CA8 := fun W => vernierlaw00_Code.calls t382 t385 W A8.out; try simp only [errW_none, errW_some] at CA8) | (go_at_call 13; (with_reducible refine (CA8 _).mono ?_); rintro e w' ⟨rfl, ⟨nd, rfl⟩⟩))
      go_ret
      exact ⟨by first | rfl | (simp [errW_none, errW_some] <;> rfl) | (simp [*, errW_none, errW_some] <;> rfl), by repeat (first | (with_reducible first | exact HB.out | apply pA | apply pN | apply p1 | refine pS ?_ GE379.out) | exact HB.out)⟩
    · rw [if_neg c7] at H
      have c7b0 : (t381 == t383) = false := beq_eq_false_iff_ne.mpr c7
      have c7b1 : (t381 != t383) = true := bne_iff_ne.mpr c7
      obtain rfl := Option.some.inj H
      go_enter Try.func6, Try.ntmps6
      go_wp2_with (first | ((with_reducible refine gD (N := 3) rfl ?_); refine bE3 3 #[.int .i64 a1_0, .bool a1_1, .int .i64 a1_2, .int .u64 a1_3] 40 ?hr ?_; (case hr => first | (go_simp; done) | (go_simp; rfl)); intro gb379 hg w15 hbox hb; have n0_ := Aside0.mk (bS3 HB.out hb); have n1_ := Aside0.mk (hbox); have n2_ := Aside0.mk ((bZ3 hg HB.out)); have n3_ := Aside0.mk ((bZ3 hg HB.out)); clear HB; have HB := n0_; have BK379 := n1_; have GW379 := n2_; have GE379 := n3_; clear n0_ n1_ n2_ n3_; clear hb hbox hg) | ((with_reducible refine gC (f := 10) rfl ?_); (with_reducible refine gD (N := 10) rfl ?_); refine goesY_ (some 10) Try.func10 #[] ?_; (with_reducible refine (vernierlaw06_up.calls k  true _ A3.out).mono ?_); rintro e w16 ⟨rfl, hb⟩; refine ⟨_, rfl, ?_⟩; have n0_ := Aside0.mk (bB3 BK379.out hb); have n1_ := Aside0.mk (bS3 HB.out hb); clear BK379; clear HB; have BK379 := n0_; have HB := n1_; clear n0_ n1_; (try clear hb); (try clear hb2); (try clear hk); (try clear hi); have hcz17_0 : w16.cell? ⟨gb379, 0, none⟩ = some (.int .i64 a1_0) := (blk_cell BK379.out 0).trans rfl; have hcz17_1 : w16.cell? ⟨gb379, 1, none⟩ = some (.bool a1_1) := (blk_cell BK379.out 1).trans rfl; have hcz17_2 : w16.cell? ⟨gb379, 2, none⟩ = some (.int .i64 a1_2) := (blk_cell BK379.out 2).trans rfl; have hcz17_3 : w16.cell? ⟨gb379, 3, none⟩ = some (.int .u64 a1_3) := (blk_cell BK379.out 3).trans rfl; have hfz17_0 := blk_frozen BK379.out 0; have hfz17_1 := blk_frozen BK379.out 1; have hfz17_2 := blk_frozen BK379.out 2; have hfz17_3 := blk_frozen BK379.out 3) | ((with_reducible refine gC (f := 18) rfl ?_); (with_reducible refine gD (N := 14) rfl ?_); refine goesY_ (some 14) Try.func18 #[.int .i64 a0, .agg #[.int .i64 a1_0, .bool a1_1, .int .i64 a1_2, .int .u64 a1_3]] ?_; (with_reducible refine (codec_Encode.calls k a0 a1_0 a1_1 a1_2 a1_3 t381 t382 _ A4.out).mono ?_); rintro e w18 ⟨rfl, hb⟩; refine ⟨_, rfl, ?_⟩; have n0_ := Aside0.mk (bB3 BK379.out hb); have n1_ := Aside0.mk (bS3 HB.out hb); clear BK379; clear HB; have BK379 := n0_; have HB := n1_; clear n0_ n1_; (try clear hb); (try clear hb2); (try clear hk); (try clear hi); (try simp only [errW_none, errW_some]); have hcz19_0 : w18.cell? ⟨gb379, 0, none⟩ = some (.int .i64 a1_0) := (blk_cell BK379.out 0).trans rfl; have hcz19_1 : w18.cell? ⟨gb379, 1, none⟩ = some (.bool a1_1) := (blk_cell BK379.out 1).trans rfl; have hcz19_2 : w18.cell? ⟨gb379, 2, none⟩ = some (.int .i64 a1_2) := (blk_cell BK379.out 2).trans rfl; have hcz19_3 : w18.cell? ⟨gb379, 3, none⟩ = some (.int .u64 a1_3) := (blk_cell BK379.out 3).trans rfl; have hfz19_0 := blk_frozen BK379.out 0; have hfz19_1 := blk_frozen BK379.out 1; have hfz19_2 := blk_frozen BK379.out 2; have hfz19_3 := blk_frozen BK379.out 3) | ((with_reducible refine gC (f := 19) rfl ?_); (with_reducible refine gD (N := 20) rfl ?_); refine goesY_ (some 20) Try.func19 #[.int .i64 a0, .agg #[.int .i64 a1_0, .bool a1_1, .int .i64 a1_2, .int .u64 a1_3]] ?_; (with_reducible refine (vernierref06_Encode.calls k a0 a1_0 a1_1 a1_2 a1_3 t383 t384 _ A5.out).mono ?_); rintro e w20 ⟨rfl, hb⟩; refine ⟨_, rfl, ?_⟩; have n0_ := Aside0.mk (bB3 BK379.out hb); have n1_ := Aside0.mk (bS3 HB.out hb); clear BK379; clear HB; have BK379 := n0_; have HB := n1_; clear n0_ n1_; (try clear hb); (try clear hb2); (try clear hk); (try clear hi)))
      go_ret
      exact ⟨by first | rfl | (simp [errW_none, errW_some] <;> rfl) | (simp [*, errW_none, errW_some] <;> rfl), by repeat (first | (with_reducible first | exact HB.out | apply pA | apply pN | apply p1 | refine pS ?_ GE379.out) | exact HB.out)⟩
  · replace c6 := Bool.eq_false_iff.mpr c6
    subst c6
    have H1 : (some false) = some r := by rw [if_neg (show ¬ (false = true) by decide)] at H; exact H
    clear H
    have H := H1
    clear H1
    obtain rfl := Option.some.inj H
    go_enter Try.func6, Try.ntmps6
    go_wp2_with (first | ((with_reducible refine gD (N := 3) rfl ?_); refine bE3 3 #[.int .i64 a1_0, .bool a1_1, .int .i64 a1_2, .int .u64 a1_3] 40 ?hr ?_; (case hr => first | (go_simp; done) | (go_simp; rfl)); intro gb379 hg w21 hbox hb; have n0_ := Aside0.mk (bS3 HB.out hb); have n1_ := Aside0.mk (hbox); have n2_ := Aside0.mk ((bZ3 hg HB.out)); have n3_ := Aside0.mk ((bZ3 hg HB.out)); clear HB; have HB := n0_; have BK379 := n1_; have GW379 := n2_; have GE379 := n3_; clear n0_ n1_ n2_ n3_; clear hb hbox hg) | ((with_reducible refine gC (f := 10) rfl ?_); (with_reducible refine gD (N := 10) rfl ?_); refine goesY_ (some 10) Try.func10 #[] ?_; (with_reducible refine (vernierlaw06_up.calls k  false _ A3.out).mono ?_); rintro e w22 ⟨rfl, hb⟩; refine ⟨_, rfl, ?_⟩; have n0_ := Aside0.mk (bB3 BK379.out hb); have n1_ := Aside0.mk (bS3 HB.out hb); clear BK379; clear HB; have BK379 := n0_; have HB := n1_; clear n0_ n1_; (try clear hb); (try clear hb2); (try clear hk); (try clear hi); have hcz23_0 : w22.cell? ⟨gb379, 0, none⟩ = some (.int .i64 a1_0) := (blk_cell BK379.out 0).trans rfl; have hcz23_1 : w22.cell? ⟨gb379, 1, none⟩ = some (.bool a1_1) := (blk_cell BK379.out 1).trans rfl; have hcz23_2 : w22.cell? ⟨gb379, 2, none⟩ = some (.int .i64 a1_2) := (blk_cell BK379.out 2).trans rfl; have hcz23_3 : w22.cell? ⟨gb379, 3, none⟩ = some (.int .u64 a1_3) := (blk_cell BK379.out 3).trans rfl; have hfz23_0 := blk_frozen BK379.out 0; have hfz23_1 := blk_frozen BK379.out 1; have hfz23_2 := blk_frozen BK379.out 2; have hfz23_3 := blk_frozen BK379.out 3) | ((with_reducible refine gC (f := 18) rfl ?_); (with_reducible refine gD (N := 14) rfl ?_); refine goesY_ (some 14) Try.func18 #[.int .i64 a0, .agg #[.int .i64 a1_0, .bool a1_1, .int .i64 a1_2, .int .u64 a1_3]] ?_; (with_reducible refine (codec_Encode.calls k a0 a1_0 a1_1 a1_2 a1_3 t381 t382 _ A4.out).mono ?_); rintro e w24 ⟨rfl, hb⟩; refine ⟨_, rfl, ?_⟩; have n0_ := Aside0.mk (bB3 BK379.out hb); have n1_ := Aside0.mk (bS3 HB.out hb); clear BK379; clear HB; have BK379 := n0_; have HB := n1_; clear n0_ n1_; (try clear hb); (try clear hb2); (try clear hk); (try clear hi); (try simp only [errW_none, errW_some]); have hcz25_0 : w24.cell? ⟨gb379, 0, none⟩ = some (.int .i64 a1_0) := (blk_cell BK379.out 0).trans rfl; have hcz25_1 : w24.cell? ⟨gb379, 1, none⟩ = some (.bool a1_1) := (blk_cell BK379.out 1).trans rfl; have hcz25_2 : w24.cell? ⟨gb379, 2, none⟩ = some (.int .i64 a1_2) := (blk_cell BK379.out 2).trans rfl; have hcz25_3 : w24.cell? ⟨gb379, 3, none⟩ = some (.int .u64 a1_3) := (blk_cell BK379.out 3).trans rfl; have hfz25_0 := blk_frozen BK379.out 0; have hfz25_1 := blk_frozen BK379.out 1; have hfz25_2 := blk_frozen BK379.out 2; have hfz25_3 := blk_frozen BK379.out 3) | ((with_reducible refine gC (f := 19) rfl ?_); (with_reducible refine gD (N := 20) rfl ?_); refine goesY_ (some 20) Try.func19 #[.int .i64 a0, .agg #[.int .i64 a1_0, .bool a1_1, .int .i64 a1_2, .int .u64 a1_3]] ?_; (with_reducible refine (vernierref06_Encode.calls k a0 a1_0 a1_1 a1_2 a1_3 t383 t384 _ A5.out).mono ?_); rintro e w26 ⟨rfl, hb⟩; refine ⟨_, rfl, ?_⟩; have n0_ := Aside0.mk (bB3 BK379.out hb); have n1_ := Aside0.mk (bS3 HB.out hb); clear BK379; clear HB; have BK379 := n0_; have HB := n1_; clear n0_ n1_; (try clear hb); (try clear hb2); (try clear hk); (try clear hi)))
    go_ret
    exact ⟨by first | rfl | (simp [errW_none, errW_some] <;> rfl) | (simp [*, errW_none, errW_some] <;> rfl), by repeat (first | (with_reducible first | exact HB.out | apply pA | apply pN | apply p1 | refine pS ?_ GE379.out) | exact HB.out)⟩

/-- THE ONE PURE STATEMENT of vernierlaw06_CodecEncodes: yours. -/
def vernierlaw06_CodecEncodes.Pure : Prop := ∀ (a0 : Int) (a1_0 : Int) (a1_1 : Bool) (a1_2 : Int) (a1_3 : Int), (Lit.int .i64 a0).wf = true → (Lit.int .i64 a1_0).wf = true → (Lit.int .i64 a1_2).wf = true → (Lit.int .u64 a1_3).wf = true → ∃ k, vernierlaw06_CodecEncodes.f k a0 a1_0 a1_1 a1_2 a1_3 = some true
theorem vernierlaw06_CodecEncodes.walk (P : vernierlaw06_CodecEncodes.Pure) (a0 : Int) (a1_0 : Int) (a1_1 : Bool) (a1_2 : Int) (a1_3 : Int) (w : World) (w0 : (Lit.int .i64 a0).wf = true) (w1_0 : (Lit.int .i64 a1_0).wf = true) (w1_2 : (Lit.int .i64 a1_2).wf = true) (w1_3 : (Lit.int .u64 a1_3).wf = true) :
    Calls Try.prog 6 #[.int .i64 a0, .agg #[.int .i64 a1_0, .bool a1_1, .int .i64 a1_2, .int .u64 a1_3]] w fun e w' => e = .returned (.bool true) ∧ Below w.heap.size w w' := by
  obtain ⟨k, h⟩ := P a0 a1_0 a1_1 a1_2 a1_3 w0 w1_0 w1_2 w1_3
  refine (vernierlaw06_CodecEncodes.calls k a0 a1_0 a1_1 a1_2 a1_3 true w h).mono ?_
  rintro e w' ⟨rfl, hd⟩
  exact ⟨rfl, hd⟩

end Go.Proofs.Ytmofdimkdkfdgaa.F
