/- Functions of the given program as plain Lean functions, and for each a proof that the program's call comes to just these answers; no further conditions. (Written by a program of this repo out of the translation.) -/
import Derived.Test.YtmofdimkdkfdgaaF0
import Derived.Test.YtmofdimkdkfdgaaF2
import Derived.Test.YtmofdimkdkfdgaaF3
import Derived.Test.YtmofdimkdkfdgaaF6
import Derived.Test.YtmofdimkdkfdgaaF7
namespace Go.Proofs.Ytmofdimkdkfdgaa.F
open Go.RowKit Go.Proofs.YtmofdimkdkfdgaaW.PrintWords Go.Proofs.YtmofdimkdkfdgaaW.PrintLast Go.Proofs.YtmofdimkdkfdgaaW.PrintMore
attribute [local go_sem high] xor_u64 xor_u32 eqErr27 neErr27 eqErrL27 neErrL27
attribute [local go_sem] max2_int min2_int max_two min_two max_three min_three max_four min_four   -- for this text's walks alone
set_option linter.unusedVariables false
set_option linter.unusedSimpArgs false

attribute [local go_sem high] eqA40
/-! ### codec_Encode: function 18 -/
def codec_Encode.j0 : Nat → Int → Int → Bool → Int → Int → Bool → Bool → Int → Int → Int → Int → Int → Int → Option (Int × Option Int)
  | 0, _, _, _, _, _, _, _, _, _, _, _, _, _ => none
  | k + 1, x0, x187000, x187001, x187002, x187003, x197000, x197001, x197002, x197003, x197004, x197005, x197006, x197007 => if 0 ≤ (wrap64 (64 - (wrap64 ((mx (wrap64 ((wrap64 (x0 - 2)) - x197002)) 0) - (mn (mx (wrap64 ((wrap64 (x0 - 2)) - x197002)) 0) 2))))) then ((codec_Join.f k x0 x197000 x197001 x197002 x197003 (mn (mx (wrap64 ((wrap64 (x0 - 2)) - x197002)) 0) 2) x197005 (wrap64 ((mx (wrap64 ((wrap64 (x0 - 2)) - x197002)) 0) - (mn (mx (wrap64 ((wrap64 (x0 - 2)) - x197002)) 0) 2))) (shr .u64 (IntKind.u64.wrap (x187003 * 2)) (wrap64 (64 - (wrap64 ((mx (wrap64 ((wrap64 (x0 - 2)) - x197002)) 0) - (mn (mx (wrap64 ((wrap64 (x0 - 2)) - x197002)) 0) 2))))))).bind fun bt197 => ((codec_Decode.f k x0 bt197.1).bind fun bt199 => (if bt197.2.isNone = true then (if (!(bt199.1 == x187000) || (!(bt199.2.1 == x187001) || (!(bt199.2.2.1 == x187002) || (!(bt199.2.2.2.1 == x187003))))) = true then (some (0, some 8)) else (some (bt197.1, none))) else (some (0, some 8))))) else (none)
def codec_Encode.f (k : Nat) (a0 : Int) (a1_0 : Int) (a1_1 : Bool) (a1_2 : Int) (a1_3 : Int) : Option (Int × Option Int) := (shape_Of.f a0).bind fun bt187 => (if bt187.2.2.2.2.2.isNone = true then ((codec_sound.f k a1_0 a1_1 a1_2 a1_3).bind fun t195 => (if t195 = true then (if a1_0 = 0 then (some (0, none)) else (if a1_0 = 2 then (some (bt187.2.2.2.1, none)) else (if a1_2 < (wrap64 (-bt187.2.2.2.2.1)) then (some (0, some 8)) else (if a1_2 > bt187.2.2.2.2.1 then (some (0, some 8)) else (if (a1_2 / 4) ≥ 0 then (codec_Encode.j0 k a0 a1_0 a1_1 a1_2 a1_3 a1_1 (decide ((a1_2 / 4) ≥ 0)) (wrap64 ((a1_2 / 4) + 1)) (a1_2 / 4) 0 (Go.bits .and .i64 a1_2 3) 0 0) else (codec_Encode.j0 k a0 a1_0 a1_1 a1_2 a1_3 a1_1 (decide ((a1_2 / 4) ≥ 0)) (wrap64 (-(a1_2 / 4))) (a1_2 / 4) 0 (Go.bits .and .i64 a1_2 3) 0 0)))))) else (some (0, some 1)))) else (some (0, some (bt187.2.2.2.2.2.getD 0))))
theorem codec_Encode.mono_l : ∀ k, (∀ y0 y1 y2 y3 y4 y5 y6 y7 y8 y9 y10 y11 y12, LeO (codec_Encode.j0 k y0 y1 y2 y3 y4 y5 y6 y7 y8 y9 y10 y11 y12) (codec_Encode.j0 (k + 1) y0 y1 y2 y3 y4 y5 y6 y7 y8 y9 y10 y11 y12))
  | 0 => fun _ _ _ _ _ _ _ _ _ _ _ _ _ r h => by simp [codec_Encode.j0] at h
  | k + 1 => by
    have ih0 := codec_Encode.mono_l k
    · intro y0 y1 y2 y3 y4 y5 y6 y7 y8 y9 y10 y11 y12
      unfold codec_Encode.j0
      repeat' first
      | (with_reducible exact ih0 _ _ _ _ _ _ _ _ _ _ _ _ _)
      | (with_reducible exact codec_Decode.mono _ _ _)
      | (with_reducible exact codec_Join.mono _ _ _ _ _ _ _ _ _ _)
      | (with_reducible exact codec_sound.mono _ _ _ _ _)
      | (with_reducible exact LeO.refl _)
      | (with_reducible exact LeO.none _)
      | (with_reducible refine LeO.ite ?_ ?_)
      | (with_reducible refine LeO.bind ?_ (fun _ => ?_))
      | exact ih0 _ _ _ _ _ _ _ _ _ _ _ _ _
      | exact codec_Decode.mono _ _ _
      | exact codec_Join.mono _ _ _ _ _ _ _ _ _ _
      | exact codec_sound.mono _ _ _ _ _
      | exact LeO.none _
      | refine LeO.ite ?_ ?_
      | refine LeO.bind ?_ (fun _ => ?_)
theorem codec_Encode.mono : ∀ a0 a1 a2 a3 a4 k, LeO (codec_Encode.f k a0 a1 a2 a3 a4) (codec_Encode.f (k + 1) a0 a1 a2 a3 a4) := by
  intro a0 a1 a2 a3 a4 k
  have ih0 := codec_Encode.mono_l k
  unfold codec_Encode.f
  repeat' first
      | (with_reducible exact ih0 _ _ _ _ _ _ _ _ _ _ _ _ _)
      | (with_reducible exact codec_Decode.mono _ _ _)
      | (with_reducible exact codec_Join.mono _ _ _ _ _ _ _ _ _ _)
      | (with_reducible exact codec_sound.mono _ _ _ _ _)
      | (with_reducible exact LeO.refl _)
      | (with_reducible exact LeO.none _)
      | (with_reducible refine LeO.ite ?_ ?_)
      | (with_reducible refine LeO.bind ?_ (fun _ => ?_))
      | exact ih0 _ _ _ _ _ _ _ _ _ _ _ _ _
      | exact codec_Decode.mono _ _ _
      | exact codec_Join.mono _ _ _ _ _ _ _ _ _ _
      | exact codec_sound.mono _ _ _ _ _
      | exact LeO.none _
      | refine LeO.ite ?_ ?_
      | refine LeO.bind ?_ (fun _ => ?_)
set_option maxHeartbeats 8000000 in
set_option maxRecDepth 100000 in
theorem codec_Encode.calls (k : Nat) (a0 : Int) (a1_0 : Int) (a1_1 : Bool) (a1_2 : Int) (a1_3 : Int) (r1 : Int) (r2 : Option Int) (w : World) (h : codec_Encode.f k a0 a1_0 a1_1 a1_2 a1_3 = some (r1, r2)) :
    Calls Try.prog 18 #[.int .i64 a0, .agg #[.int .i64 a1_0, .bool a1_1, .int .i64 a1_2, .int .u64 a1_3]] w fun e w' => e = .returned (.tuple #[.int .u64 r1, errW r2]) ∧ Below w.heap.size w w' := by
  have hu40 := Try.underlying40
  have hu68 := Try.underlying68
  have hu25 := Try.underlying25
  have hu27 := Try.underlying27
  have hu49 := Try.underlying49
  have HB := Aside0.mk (Below.refl w.heap.size w)
  have H : ((shape_Of.f a0).bind fun bt187 => (if bt187.2.2.2.2.2.isNone = true then ((codec_sound.f k a1_0 a1_1 a1_2 a1_3).bind fun t195 => (if t195 = true then (if a1_0 = 0 then (some (0, none)) else (if a1_0 = 2 then (some (bt187.2.2.2.1, none)) else (if a1_2 < (wrap64 (-bt187.2.2.2.2.1)) then (some (0, some 8)) else (if a1_2 > bt187.2.2.2.2.1 then (some (0, some 8)) else (if (a1_2 / 4) ≥ 0 then (codec_Encode.j0 k a0 a1_0 a1_1 a1_2 a1_3 a1_1 (decide ((a1_2 / 4) ≥ 0)) (wrap64 ((a1_2 / 4) + 1)) (a1_2 / 4) 0 (Go.bits .and .i64 a1_2 3) 0 0) else (codec_Encode.j0 k a0 a1_0 a1_1 a1_2 a1_3 a1_1 (decide ((a1_2 / 4) ≥ 0)) (wrap64 (-(a1_2 / 4))) (a1_2 / 4) 0 (Go.bits .and .i64 a1_2 3) 0 0)))))) else (some (0, some 1)))) else (some (0, some (bt187.2.2.2.2.2.getD 0))))) = some (r1, r2) := h
  clear h
  replace H := Option.bind_eq_some_iff.mp H
  obtain ⟨⟨t187, t188, t189, t190, t191, t192⟩, A30, H⟩ := H
  replace H : (if t192.isNone = true then ((codec_sound.f k a1_0 a1_1 a1_2 a1_3).bind fun t195 => (if t195 = true then (if a1_0 = 0 then (some (0, none)) else (if a1_0 = 2 then (some (t190, none)) else (if a1_2 < (wrap64 (-t191)) then (some (0, some 8)) else (if a1_2 > t191 then (some (0, some 8)) else (if (a1_2 / 4) ≥ 0 then (codec_Encode.j0 k a0 a1_0 a1_1 a1_2 a1_3 a1_1 (decide ((a1_2 / 4) ≥ 0)) (wrap64 ((a1_2 / 4) + 1)) (a1_2 / 4) 0 (Go.bits .and .i64 a1_2 3) 0 0) else (codec_Encode.j0 k a0 a1_0 a1_1 a1_2 a1_3 a1_1 (decide ((a1_2 / 4) ≥ 0)) (wrap64 (-(a1_2 / 4))) (a1_2 / 4) 0 (Go.bits .and .i64 a1_2 3) 0 0)))))) else (some (0, some 1)))) else (some (0, some (t192.getD 0)))) = some (r1, r2) := H
  have A3 := Aside0.mk A30
  clear A30
  rcases t192 with _ | q194
  · have H1 : ((codec_sound.f k a1_0 a1_1 a1_2 a1_3).bind fun t195 => (if t195 = true then (if a1_0 = 0 then (some (0, none)) else (if a1_0 = 2 then (some (t190, none)) else (if a1_2 < (wrap64 (-t191)) then (some (0, some 8)) else (if a1_2 > t191 then (some (0, some 8)) else (if (a1_2 / 4) ≥ 0 then (codec_Encode.j0 k a0 a1_0 a1_1 a1_2 a1_3 a1_1 (decide ((a1_2 / 4) ≥ 0)) (wrap64 ((a1_2 / 4) + 1)) (a1_2 / 4) 0 (Go.bits .and .i64 a1_2 3) 0 0) else (codec_Encode.j0 k a0 a1_0 a1_1 a1_2 a1_3 a1_1 (decide ((a1_2 / 4) ≥ 0)) (wrap64 (-(a1_2 / 4))) (a1_2 / 4) 0 (Go.bits .and .i64 a1_2 3) 0 0)))))) else (some (0, some 1)))) = some (r1, r2) := by rw [if_pos (show (none : Option Int).isNone = true by rfl)] at H; exact H
    clear H
    have H := H1
    clear H1
    try simp only [errW_none, errW_some]
    replace H := Option.bind_eq_some_iff.mp H
    obtain ⟨t195, A40, H⟩ := H
    replace H : (if t195 = true then (if a1_0 = 0 then (some (0, none)) else (if a1_0 = 2 then (some (t190, none)) else (if a1_2 < (wrap64 (-t191)) then (some (0, some 8)) else (if a1_2 > t191 then (some (0, some 8)) else (if (a1_2 / 4) ≥ 0 then (codec_Encode.j0 k a0 a1_0 a1_1 a1_2 a1_3 a1_1 (decide ((a1_2 / 4) ≥ 0)) (wrap64 ((a1_2 / 4) + 1)) (a1_2 / 4) 0 (Go.bits .and .i64 a1_2 3) 0 0) else (codec_Encode.j0 k a0 a1_0 a1_1 a1_2 a1_3 a1_1 (decide ((a1_2 / 4) ≥ 0)) (wrap64 (-(a1_2 / 4))) (a1_2 / 4) 0 (Go.bits .and .i64 a1_2 3) 0 0)))))) else (some (0, some 1))) = some (r1, r2) := H
    have A4 := Aside0.mk A40
    clear A40
    by_cases c5 : t195 = true
    · subst c5
      have H1 : (if a1_0 = 0 then (some (0, none)) else (if a1_0 = 2 then (some (t190, none)) else (if a1_2 < (wrap64 (-t191)) then (some (0, some 8)) else (if a1_2 > t191 then (some (0, some 8)) else (if (a1_2 / 4) ≥ 0 then (codec_Encode.j0 k a0 a1_0 a1_1 a1_2 a1_3 a1_1 (decide ((a1_2 / 4) ≥ 0)) (wrap64 ((a1_2 / 4) + 1)) (a1_2 / 4) 0 (Go.bits .and .i64 a1_2 3) 0 0) else (codec_Encode.j0 k a0 a1_0 a1_1 a1_2 a1_3 a1_1 (decide ((a1_2 / 4) ≥ 0)) (wrap64 (-(a1_2 / 4))) (a1_2 / 4) 0 (Go.bits .and .i64 a1_2 3) 0 0)))))) = some (r1, r2) := by rw [if_pos rfl] at H; exact H
      clear H
      have H := H1
      clear H1
      by_cases c6 : a1_0 = 0
      · rw [if_pos c6] at H
        have c6b0 : (a1_0 == 0) = true := beq_iff_eq.mpr c6
        have c6b1 : (a1_0 != 0) = false := bne_eq_false_iff_eq.mpr c6
        clear c6
        simp only [Option.some.injEq, Prod.mk.injEq] at H
        obtain ⟨rfl, rfl⟩ := H
        go_enter Try.func18, Try.ntmps18
        go_wp2_with (first | ((with_reducible refine gD (N := 3) rfl ?_); refine bE3 3 #[.int .i64 a1_0, .bool a1_1, .int .i64 a1_2, .int .u64 a1_3] 40 ?hr ?_; (case hr => first | (go_simp; done) | (go_simp; rfl)); intro gb186 hg w7 hbox hb; have n0_ := Aside0.mk (bS3 HB.out hb); have n1_ := Aside0.mk (hbox); have n2_ := Aside0.mk ((bZ3 hg HB.out)); have n3_ := Aside0.mk ((bZ3 hg HB.out)); clear HB; have HB := n0_; have BK186 := n1_; have GW186 := n2_; have GE186 := n3_; clear n0_ n1_ n2_ n3_; clear hb hbox hg) | ((with_reducible refine gC (f := 32) rfl ?_); (with_reducible refine gD (N := 16) rfl ?_); refine goesY_ (some 16) Try.func32 #[.int .i64 a0] ?_; (with_reducible refine (shape_Of.calls a0 t187 t188 t189 t190 t191 none _ A3.out).mono ?_); rintro e w8 ⟨rfl, hb⟩; refine ⟨_, rfl, ?_⟩; have n0_ := Aside0.mk (bB3 BK186.out hb); have n1_ := Aside0.mk (bS3 HB.out hb); clear BK186; clear HB; have BK186 := n0_; have HB := n1_; clear n0_ n1_; (try clear hb); (try clear hb2); (try clear hk); (try clear hi); (try simp only [errW_none, errW_some])) | ((with_reducible refine gD (N := 6) rfl ?_); refine bE3 6 #[.int .i64 0, .int .u64 0, .int .u64 0, .int .u64 0, .int .i64 0] 68 ?hr ?_; (case hr => first | (go_simp; done) | (go_simp; rfl)); intro gb193 hg w9 hbox hb; have n0_ := Aside0.mk (bB3 BK186.out hb); have n1_ := Aside0.mk (bS3 HB.out hb); have n2_ := Aside0.mk (hbox); have n3_ := Aside0.mk ((bZ3 hg HB.out)); have n4_ := Aside0.mk ((bZ3 hg HB.out)); have n5_ := Aside0.mk ((bL3 hg BK186.out)); have n6_ := Aside0.mk ((bG3 hg BK186.out)); clear BK186; clear HB; have BK186 := n0_; have HB := n1_; have BK193 := n2_; have GW193 := n3_; have GE193 := n4_; have NB186_193 := n5_; have NB193_186 := n6_; clear n0_ n1_ n2_ n3_ n4_ n5_ n6_; clear hb hbox hg; have hnb10 := NB193_186.out; have hnc10 := NB186_193.out; have hcz11_0 : w9.cell? ⟨gb193, 0, none⟩ = some (.int .i64 0) := (blk_cell BK193.out 0).trans rfl; have hcz11_1 : w9.cell? ⟨gb193, 1, none⟩ = some (.int .u64 0) := (blk_cell BK193.out 1).trans rfl; have hcz11_2 : w9.cell? ⟨gb193, 2, none⟩ = some (.int .u64 0) := (blk_cell BK193.out 2).trans rfl; have hcz11_3 : w9.cell? ⟨gb193, 3, none⟩ = some (.int .u64 0) := (blk_cell BK193.out 3).trans rfl; have hcz11_4 : w9.cell? ⟨gb193, 4, none⟩ = some (.int .i64 0) := (blk_cell BK193.out 4).trans rfl; have hfz11_0 := blk_frozen BK193.out 0; have hfz11_1 := blk_frozen BK193.out 1; have hfz11_2 := blk_frozen BK193.out 2; have hfz11_3 := blk_frozen BK193.out 3; have hfz11_4 := blk_frozen BK193.out 4; have hcz12_0 : w9.cell? ⟨gb186, 0, none⟩ = some (.int .i64 a1_0) := (blk_cell BK186.out 0).trans rfl; have hcz12_1 : w9.cell? ⟨gb186, 1, none⟩ = some (.bool a1_1) := (blk_cell BK186.out 1).trans rfl; have hcz12_2 : w9.cell? ⟨gb186, 2, none⟩ = some (.int .i64 a1_2) := (blk_cell BK186.out 2).trans rfl; have hcz12_3 : w9.cell? ⟨gb186, 3, none⟩ = some (.int .u64 a1_3) := (blk_cell BK186.out 3).trans rfl; have hfz12_0 := blk_frozen BK186.out 0; have hfz12_1 := blk_frozen BK186.out 1; have hfz12_2 := blk_frozen BK186.out 2; have hfz12_3 := blk_frozen BK186.out 3) | ((with_reducible refine gC (f := 37) rfl ?_); (with_reducible refine gD (N := 25) rfl ?_); refine goesY_ (some 25) Try.func37 #[.agg #[.int .i64 a1_0, .bool a1_1, .int .i64 a1_2, .int .u64 a1_3]] ?_; (with_reducible refine (codec_sound.calls k a1_0 a1_1 a1_2 a1_3 true _ A4.out).mono ?_); rintro e w13 ⟨rfl, hb⟩; refine ⟨_, rfl, ?_⟩; have n0_ := Aside0.mk (bB (g := gb186) (o := .cells #[.int .i64 a1_0, .bool a1_1, .int .i64 a1_2, .int .u64 a1_3] 40 (0, 0)) (by (with_reducible repeat (first | refine bN ?_ _ | refine bD ?_ | refine bA ?_ _)); refine blk_far ?_ NB186_193.out _; (with_reducible repeat (first | refine bN ?_ _ | refine bD ?_ | refine bA ?_ _)); refine blk_far ?_ NB186_193.out _; (with_reducible repeat (first | refine bN ?_ _ | refine bD ?_ | refine bA ?_ _)); refine blk_far ?_ NB186_193.out _; (with_reducible repeat (first | refine bN ?_ _ | refine bD ?_ | refine bA ?_ _)); refine blk_far ?_ NB186_193.out _; (with_reducible repeat (first | refine bN ?_ _ | refine bD ?_ | refine bA ?_ _)); refine blk_far ?_ NB186_193.out _; (with_reducible repeat (first | refine bN ?_ _ | refine bD ?_ | refine bA ?_ _)); exact BK186.out) hb); have n1_ := Aside0.mk (bB (g := gb193) (o := .cells #[.int .i64 t187, .int .u64 t188, .int .u64 t189, .int .u64 t190, .int .i64 t191] 68 (0, 0)) (by (with_reducible repeat (first | refine bN ?_ _ | refine bD ?_ | refine bA ?_ _)); refine blk_put (cs := #[.int .i64 t187, .int .u64 t188, .int .u64 t189, .int .u64 t190, .int .i64 0]) ?_ 4 _ rfl; (with_reducible repeat (first | refine bN ?_ _ | refine bD ?_ | refine bA ?_ _)); refine blk_put (cs := #[.int .i64 t187, .int .u64 t188, .int .u64 t189, .int .u64 0, .int .i64 0]) ?_ 3 _ rfl; (with_reducible repeat (first | refine bN ?_ _ | refine bD ?_ | refine bA ?_ _)); refine blk_put (cs := #[.int .i64 t187, .int .u64 t188, .int .u64 0, .int .u64 0, .int .i64 0]) ?_ 2 _ rfl; (with_reducible repeat (first | refine bN ?_ _ | refine bD ?_ | refine bA ?_ _)); refine blk_put (cs := #[.int .i64 t187, .int .u64 0, .int .u64 0, .int .u64 0, .int .i64 0]) ?_ 1 _ rfl; (with_reducible repeat (first | refine bN ?_ _ | refine bD ?_ | refine bA ?_ _)); refine blk_put (cs := #[.int .i64 0, .int .u64 0, .int .u64 0, .int .u64 0, .int .i64 0]) ?_ 0 _ rfl; (with_reducible repeat (first | refine bN ?_ _ | refine bD ?_ | refine bA ?_ _)); exact BK193.out) hb); have n2_ := Aside0.mk (bS3 HB.out hb); clear BK186; clear BK193; clear HB; have BK186 := n0_; have BK193 := n1_; have HB := n2_; clear n0_ n1_ n2_; (try clear hb); (try clear hb2); (try clear hk); (try clear hi); have hcz14_0 : w13.cell? ⟨gb186, 0, none⟩ = some (.int .i64 a1_0) := (blk_cell BK186.out 0).trans rfl; have hcz14_1 : w13.cell? ⟨gb186, 1, none⟩ = some (.bool a1_1) := (blk_cell BK186.out 1).trans rfl; have hcz14_2 : w13.cell? ⟨gb186, 2, none⟩ = some (.int .i64 a1_2) := (blk_cell BK186.out 2).trans rfl; have hcz14_3 : w13.cell? ⟨gb186, 3, none⟩ = some (.int .u64 a1_3) := (blk_cell BK186.out 3).trans rfl; have hfz14_0 := blk_frozen BK186.out 0; have hfz14_1 := blk_frozen BK186.out 1; have hfz14_2 := blk_frozen BK186.out 2; have hfz14_3 := blk_frozen BK186.out 3))
        go_ret2
        exact ⟨by first | rfl | (simp [errW_none, errW_some] <;> rfl) | (simp [*, errW_none, errW_some] <;> rfl), by repeat (first | (with_reducible first | exact HB.out | apply pA | apply pN | apply p1 | refine pS ?_ GE186.out | refine pS ?_ GE193.out) | exact HB.out)⟩
      · rw [if_neg c6] at H
        have c6b0 : (a1_0 == 0) = false := beq_eq_false_iff_ne.mpr c6
        have c6b1 : (a1_0 != 0) = true := bne_iff_ne.mpr c6
        by_cases c15 : a1_0 = 2
        · rw [if_pos c15] at H
          have c15b0 : (a1_0 == 2) = true := beq_iff_eq.mpr c15
          have c15b1 : (a1_0 != 2) = false := bne_eq_false_iff_eq.mpr c15
          clear c15
          simp only [Option.some.injEq, Prod.mk.injEq] at H
          obtain ⟨rfl, rfl⟩ := H
          go_enter Try.func18, Try.ntmps18
          go_wp2_with (first | ((with_reducible refine gD (N := 3) rfl ?_); refine bE3 3 #[.int .i64 a1_0, .bool a1_1, .int .i64 a1_2, .int .u64 a1_3] 40 ?hr ?_; (case hr => first | (go_simp; done) | (go_simp; rfl)); intro gb186 hg w16 hbox hb; have n0_ := Aside0.mk (bS3 HB.out hb); have n1_ := Aside0.mk (hbox); have n2_ := Aside0.mk ((bZ3 hg HB.out)); have n3_ := Aside0.mk ((bZ3 hg HB.out)); clear HB; have HB := n0_; have BK186 := n1_; have GW186 := n2_; have GE186 := n3_; clear n0_ n1_ n2_ n3_; clear hb hbox hg) | ((with_reducible refine gC (f := 32) rfl ?_); (with_reducible refine gD (N := 16) rfl ?_); refine goesY_ (some 16) Try.func32 #[.int .i64 a0] ?_; (with_reducible refine (shape_Of.calls a0 t187 t188 t189 t190 t191 none _ A3.out).mono ?_); rintro e w17 ⟨rfl, hb⟩; refine ⟨_, rfl, ?_⟩; have n0_ := Aside0.mk (bB3 BK186.out hb); have n1_ := Aside0.mk (bS3 HB.out hb); clear BK186; clear HB; have BK186 := n0_; have HB := n1_; clear n0_ n1_; (try clear hb); (try clear hb2); (try clear hk); (try clear hi); (try simp only [errW_none, errW_some])) | ((with_reducible refine gD (N := 6) rfl ?_); refine bE3 6 #[.int .i64 0, .int .u64 0, .int .u64 0, .int .u64 0, .int .i64 0] 68 ?hr ?_; (case hr => first | (go_simp; done) | (go_simp; rfl)); intro gb193 hg w18 hbox hb; have n0_ := Aside0.mk (bB3 BK186.out hb); have n1_ := Aside0.mk (bS3 HB.out hb); have n2_ := Aside0.mk (hbox); have n3_ := Aside0.mk ((bZ3 hg HB.out)); have n4_ := Aside0.mk ((bZ3 hg HB.out)); have n5_ := Aside0.mk ((bL3 hg BK186.out)); have n6_ := Aside0.mk ((bG3 hg BK186.out)); clear BK186; clear HB; have BK186 := n0_; have HB := n1_; have BK193 := n2_; have GW193 := n3_; have GE193 := n4_; have NB186_193 := n5_; have NB193_186 := n6_; clear n0_ n1_ n2_ n3_ n4_ n5_ n6_; clear hb hbox hg; have hnb19 := NB193_186.out; have hnc19 := NB186_193.out; have hcz20_0 : w18.cell? ⟨gb193, 0, none⟩ = some (.int .i64 0) := (blk_cell BK193.out 0).trans rfl; have hcz20_1 : w18.cell? ⟨gb193, 1, none⟩ = some (.int .u64 0) := (blk_cell BK193.out 1).trans rfl; have hcz20_2 : w18.cell? ⟨gb193, 2, none⟩ = some (.int .u64 0) := (blk_cell BK193.out 2).trans rfl; have hcz20_3 : w18.cell? ⟨gb193, 3, none⟩ = some (.int .u64 0) := (blk_cell BK193.out 3).trans rfl; have hcz20_4 : w18.cell? ⟨gb193, 4, none⟩ = some (.int .i64 0) := (blk_cell BK193.out 4).trans rfl; have hfz20_0 := blk_frozen BK193.out 0; have hfz20_1 := blk_frozen BK193.out 1; have hfz20_2 := blk_frozen BK193.out 2; have hfz20_3 := blk_frozen BK193.out 3; have hfz20_4 := blk_frozen BK193.out 4; have hcz21_0 : w18.cell? ⟨gb186, 0, none⟩ = some (.int .i64 a1_0) := (blk_cell BK186.out 0).trans rfl; have hcz21_1 : w18.cell? ⟨gb186, 1, none⟩ = some (.bool a1_1) := (blk_cell BK186.out 1).trans rfl; have hcz21_2 : w18.cell? ⟨gb186, 2, none⟩ = some (.int .i64 a1_2) := (blk_cell BK186.out 2).trans rfl; have hcz21_3 : w18.cell? ⟨gb186, 3, none⟩ = some (.int .u64 a1_3) := (blk_cell BK186.out 3).trans rfl; have hfz21_0 := blk_frozen BK186.out 0; have hfz21_1 := blk_frozen BK186.out 1; have hfz21_2 := blk_frozen BK186.out 2; have hfz21_3 := blk_frozen BK186.out 3) | ((with_reducible refine gC (f := 37) rfl ?_); (with_reducible refine gD (N := 25) rfl ?_); refine goesY_ (some 25) Try.func37 #[.agg #[.int .i64 a1_0, .bool a1_1, .int .i64 a1_2, .int .u64 a1_3]] ?_; (with_reducible refine (codec_sound.calls k a1_0 a1_1 a1_2 a1_3 true _ A4.out).mono ?_); rintro e w22 ⟨rfl, hb⟩; refine ⟨_, rfl, ?_⟩; have n0_ := Aside0.mk (bB (g := gb186) (o := .cells #[.int .i64 a1_0, .bool a1_1, .int .i64 a1_2, .int .u64 a1_3] 40 (0, 0)) (by (with_reducible repeat (first | refine bN ?_ _ | refine bD ?_ | refine bA ?_ _)); refine blk_far ?_ NB186_193.out _; (with_reducible repeat (first | refine bN ?_ _ | refine bD ?_ | refine bA ?_ _)); refine blk_far ?_ NB186_193.out _; (with_reducible repeat (first | refine bN ?_ _ | refine bD ?_ | refine bA ?_ _)); refine blk_far ?_ NB186_193.out _; (with_reducible repeat (first | refine bN ?_ _ | refine bD ?_ | refine bA ?_ _)); refine blk_far ?_ NB186_193.out _; (with_reducible repeat (first | refine bN ?_ _ | refine bD ?_ | refine bA ?_ _)); refine blk_far ?_ NB186_193.out _; (with_reducible repeat (first | refine bN ?_ _ | refine bD ?_ | refine bA ?_ _)); exact BK186.out) hb); have n1_ := Aside0.mk (bB (g := gb193) (o := .cells #[.int .i64 t187, .int .u64 t188, .int .u64 t189, .int .u64 t190, .int .i64 t191] 68 (0, 0)) (by (with_reducible repeat (first | refine bN ?_ _ | refine bD ?_ | refine bA ?_ _)); refine blk_put (cs := #[.int .i64 t187, .int .u64 t188, .int .u64 t189, .int .u64 t190, .int .i64 0]) ?_ 4 _ rfl; (with_reducible repeat (first | refine bN ?_ _ | refine bD ?_ | refine bA ?_ _)); refine blk_put (cs := #[.int .i64 t187, .int .u64 t188, .int .u64 t189, .int .u64 0, .int .i64 0]) ?_ 3 _ rfl; (with_reducible repeat (first | refine bN ?_ _ | refine bD ?_ | refine bA ?_ _)); refine blk_put (cs := #[.int .i64 t187, .int .u64 t188, .int .u64 0, .int .u64 0, .int .i64 0]) ?_ 2 _ rfl; (with_reducible repeat (first | refine bN ?_ _ | refine bD ?_ | refine bA ?_ _)); refine blk_put (cs := #[.int .i64 t187, .int .u64 0, .int .u64 0, .int .u64 0, .int .i64 0]) ?_ 1 _ rfl; (with_reducible repeat (first | refine bN ?_ _ | refine bD ?_ | refine bA ?_ _)); refine blk_put (cs := #[.int .i64 0, .int .u64 0, .int .u64 0, .int .u64 0, .int .i64 0]) ?_ 0 _ rfl; (with_reducible repeat (first | refine bN ?_ _ | refine bD ?_ | refine bA ?_ _)); exact BK193.out) hb); have n2_ := Aside0.mk (bS3 HB.out hb); clear BK186; clear BK193; clear HB; have BK186 := n0_; have BK193 := n1_; have HB := n2_; clear n0_ n1_ n2_; (try clear hb); (try clear hb2); (try clear hk); (try clear hi); have hcz23_0 : w22.cell? ⟨gb186, 0, none⟩ = some (.int .i64 a1_0) := (blk_cell BK186.out 0).trans rfl; have hcz23_1 : w22.cell? ⟨gb186, 1, none⟩ = some (.bool a1_1) := (blk_cell BK186.out 1).trans rfl; have hcz23_2 : w22.cell? ⟨gb186, 2, none⟩ = some (.int .i64 a1_2) := (blk_cell BK186.out 2).trans rfl; have hcz23_3 : w22.cell? ⟨gb186, 3, none⟩ = some (.int .u64 a1_3) := (blk_cell BK186.out 3).trans rfl; have hfz23_0 := blk_frozen BK186.out 0; have hfz23_1 := blk_frozen BK186.out 1; have hfz23_2 := blk_frozen BK186.out 2; have hfz23_3 := blk_frozen BK186.out 3; have hcz24_0 : w22.cell? ⟨gb193, 0, none⟩ = some (.int .i64 t187) := (blk_cell BK193.out 0).trans rfl; have hcz24_1 : w22.cell? ⟨gb193, 1, none⟩ = some (.int .u64 t188) := (blk_cell BK193.out 1).trans rfl; have hcz24_2 : w22.cell? ⟨gb193, 2, none⟩ = some (.int .u64 t189) := (blk_cell BK193.out 2).trans rfl; have hcz24_3 : w22.cell? ⟨gb193, 3, none⟩ = some (.int .u64 t190) := (blk_cell BK193.out 3).trans rfl; have hcz24_4 : w22.cell? ⟨gb193, 4, none⟩ = some (.int .i64 t191) := (blk_cell BK193.out 4).trans rfl; have hfz24_0 := blk_frozen BK193.out 0; have hfz24_1 := blk_frozen BK193.out 1; have hfz24_2 := blk_frozen BK193.out 2; have hfz24_3 := blk_frozen BK193.out 3; have hfz24_4 := blk_frozen BK193.out 4))
          go_ret2
          exact ⟨by first | rfl | (simp [errW_none, errW_some] <;> rfl) | (simp [*, errW_none, errW_some] <;> rfl), by repeat (first | (with_reducible first | exact HB.out | apply pA | apply pN | apply p1 | refine pS ?_ GE186.out | refine pS ?_ GE193.out) | exact HB.out)⟩
        · rw [if_neg c15] at H
          have c15b0 : (a1_0 == 2) = false := beq_eq_false_iff_ne.mpr c15
          have c15b1 : (a1_0 != 2) = true := bne_iff_ne.mpr c15
          by_cases c25 : a1_2 < (wrap64 (-t191))
          · rw [if_pos c25] at H
            have c25b0 : decide (a1_2 < (wrap64 (-t191))) = true := decide_eq_true c25
            clear c25
            simp only [Option.some.injEq, Prod.mk.injEq] at H
            obtain ⟨rfl, rfl⟩ := H
            go_enter Try.func18, Try.ntmps18
            go_wp2_with (first | ((with_reducible refine gD (N := 3) rfl ?_); refine bE3 3 #[.int .i64 a1_0, .bool a1_1, .int .i64 a1_2, .int .u64 a1_3] 40 ?hr ?_; (case hr => first | (go_simp; done) | (go_simp; rfl)); intro gb186 hg w26 hbox hb; have n0_ := Aside0.mk (bS3 HB.out hb); have n1_ := Aside0.mk (hbox); have n2_ := Aside0.mk ((bZ3 hg HB.out)); have n3_ := Aside0.mk ((bZ3 hg HB.out)); clear HB; have HB := n0_; have BK186 := n1_; have GW186 := n2_; have GE186 := n3_; clear n0_ n1_ n2_ n3_; clear hb hbox hg) | ((with_reducible refine gC (f := 32) rfl ?_); (with_reducible refine gD (N := 16) rfl ?_); refine goesY_ (some 16) Try.func32 #[.int .i64 a0] ?_; (with_reducible refine (shape_Of.calls a0 t187 t188 t189 t190 t191 none _ A3.out).mono ?_); rintro e w27 ⟨rfl, hb⟩; refine ⟨_, rfl, ?_⟩; have n0_ := Aside0.mk (bB3 BK186.out hb); have n1_ := Aside0.mk (bS3 HB.out hb); clear BK186; clear HB; have BK186 := n0_; have HB := n1_; clear n0_ n1_; (try clear hb); (try clear hb2); (try clear hk); (try clear hi); (try simp only [errW_none, errW_some])) | ((with_reducible refine gD (N := 6) rfl ?_); refine bE3 6 #[.int .i64 0, .int .u64 0, .int .u64 0, .int .u64 0, .int .i64 0] 68 ?hr ?_; (case hr => first | (go_simp; done) | (go_simp; rfl)); intro gb193 hg w28 hbox hb; have n0_ := Aside0.mk (bB3 BK186.out hb); have n1_ := Aside0.mk (bS3 HB.out hb); have n2_ := Aside0.mk (hbox); have n3_ := Aside0.mk ((bZ3 hg HB.out)); have n4_ := Aside0.mk ((bZ3 hg HB.out)); have n5_ := Aside0.mk ((bL3 hg BK186.out)); have n6_ := Aside0.mk ((bG3 hg BK186.out)); clear BK186; clear HB; have BK186 := n0_; have HB := n1_; have BK193 := n2_; have GW193 := n3_; have GE193 := n4_; have NB186_193 := n5_; have NB193_186 := n6_; clear n0_ n1_ n2_ n3_ n4_ n5_ n6_; clear hb hbox hg; have hnb29 := NB193_186.out; have hnc29 := NB186_193.out; have hcz30_0 : w28.cell? ⟨gb193, 0, none⟩ = some (.int .i64 0) := (blk_cell BK193.out 0).trans rfl; have hcz30_1 : w28.cell? ⟨gb193, 1, none⟩ = some (.int .u64 0) := (blk_cell BK193.out 1).trans rfl; have hcz30_2 : w28.cell? ⟨gb193, 2, none⟩ = some (.int .u64 0) := (blk_cell BK193.out 2).trans rfl; have hcz30_3 : w28.cell? ⟨gb193, 3, none⟩ = some (.int .u64 0) := (blk_cell BK193.out 3).trans rfl; have hcz30_4 : w28.cell? ⟨gb193, 4, none⟩ = some (.int .i64 0) := (blk_cell BK193.out 4).trans rfl; have hfz30_0 := blk_frozen BK193.out 0; have hfz30_1 := blk_frozen BK193.out 1; have hfz30_2 := blk_frozen BK193.out 2; have hfz30_3 := blk_frozen BK193.out 3; have hfz30_4 := blk_frozen BK193.out 4; have hcz31_0 : w28.cell? ⟨gb186, 0, none⟩ = some (.int .i64 a1_0) := (blk_cell BK186.out 0).trans rfl; have hcz31_1 : w28.cell? ⟨gb186, 1, none⟩ = some (.bool a1_1) := (blk_cell BK186.out 1).trans rfl; have hcz31_2 : w28.cell? ⟨gb186, 2, none⟩ = some (.int .i64 a1_2) := (blk_cell BK186.out 2).trans rfl; have hcz31_3 : w28.cell? ⟨gb186, 3, none⟩ = some (.int .u64 a1_3) := (blk_cell BK186.out 3).trans rfl; have hfz31_0 := blk_frozen BK186.out 0; have hfz31_1 := blk_frozen BK186.out 1; have hfz31_2 := blk_frozen BK186.out 2; have hfz31_3 := blk_frozen BK186.out 3) | ((with_reducible refine gC (f := 37) rfl ?_); (with_reducible refine gD (N := 25) rfl ?_); refine goesY_ (some 25) Try.func37 #[.agg #[.int .i64 a1_0, .bool a1_1, .int .i64 a1_2, .int .u64 a1_3]] ?_; (with_reducible refine (codec_sound.calls k a1_0 a1_1 a1_2 a1_3 true _ A4.out).mono ?_); rintro e w32 ⟨rfl, hb⟩; refine ⟨_, rfl, ?_⟩; have n0_ := Aside0.mk (bB (g := gb186) (o := .cells #[.int .i64 a1_0, .bool a1_1, .int .i64 a1_2, .int .u64 a1_3] 40 (0, 0)) (by (with_reducible repeat (first | refine bN ?_ _ | refine bD ?_ | refine bA ?_ _)); refine blk_far ?_ NB186_193.out _; (with_reducible repeat (first | refine bN ?_ _ | refine bD ?_ | refine bA ?_ _)); refine blk_far ?_ NB186_193.out _; (with_reducible repeat (first | refine bN ?_ _ | refine bD ?_ | refine bA ?_ _)); refine blk_far ?_ NB186_193.out _; (with_reducible repeat (first | refine bN ?_ _ | refine bD ?_ | refine bA ?_ _)); refine blk_far ?_ NB186_193.out _; (with_reducible repeat (first | refine bN ?_ _ | refine bD ?_ | refine bA ?_ _)); refine blk_far ?_ NB186_193.out _; (with_reducible repeat (first | refine bN ?_ _ | refine bD ?_ | refine bA ?_ _)); exact BK186.out) hb); have n1_ := Aside0.mk (bB (g := gb193) (o := .cells #[.int .i64 t187, .int .u64 t188, .int .u64 t189, .int .u64 t190, .int .i64 t191] 68 (0, 0)) (by (with_reducible repeat (first | refine bN ?_ _ | refine bD ?_ | refine bA ?_ _)); refine blk_put (cs := #[.int .i64 t187, .int .u64 t188, .int .u64 t189, .int .u64 t190, .int .i64 0]) ?_ 4 _ rfl; (with_reducible repeat (first | refine bN ?_ _ | refine bD ?_ | refine bA ?_ _)); refine blk_put (cs := #[.int .i64 t187, .int .u64 t188, .int .u64 t189, .int .u64 0, .int .i64 0]) ?_ 3 _ rfl; (with_reducible repeat (first | refine bN ?_ _ | refine bD ?_ | refine bA ?_ _)); refine blk_put (cs := #[.int .i64 t187, .int .u64 t188, .int .u64 0, .int .u64 0, .int .i64 0]) ?_ 2 _ rfl; (with_reducible repeat (first | refine bN ?_ _ | refine bD ?_ | refine bA ?_ _)); refine blk_put (cs := #[.int .i64 t187, .int .u64 0, .int .u64 0, .int .u64 0, .int .i64 0]) ?_ 1 _ rfl; (with_reducible repeat (first | refine bN ?_ _ | refine bD ?_ | refine bA ?_ _)); refine blk_put (cs := #[.int .i64 0, .int .u64 0, .int .u64 0, .int .u64 0, .int .i64 0]) ?_ 0 _ rfl; (with_reducible repeat (first | refine bN ?_ _ | refine bD ?_ | refine bA ?_ _)); exact BK193.out) hb); have n2_ := Aside0.mk (bS3 HB.out hb); clear BK186; clear BK193; clear HB; have BK186 := n0_; have BK193 := n1_; have HB := n2_; clear n0_ n1_ n2_; (try clear hb); (try clear hb2); (try clear hk); (try clear hi); have hcz33_0 : w32.cell? ⟨gb186, 0, none⟩ = some (.int .i64 a1_0) := (blk_cell BK186.out 0).trans rfl; have hcz33_1 : w32.cell? ⟨gb186, 1, none⟩ = some (.bool a1_1) := (blk_cell BK186.out 1).trans rfl; have hcz33_2 : w32.cell? ⟨gb186, 2, none⟩ = some (.int .i64 a1_2) := (blk_cell BK186.out 2).trans rfl; have hcz33_3 : w32.cell? ⟨gb186, 3, none⟩ = some (.int .u64 a1_3) := (blk_cell BK186.out 3).trans rfl; have hfz33_0 := blk_frozen BK186.out 0; have hfz33_1 := blk_frozen BK186.out 1; have hfz33_2 := blk_frozen BK186.out 2; have hfz33_3 := blk_frozen BK186.out 3; have hcz34_0 : w32.cell? ⟨gb193, 0, none⟩ = some (.int .i64 t187) := (blk_cell BK193.out 0).trans rfl; have hcz34_1 : w32.cell? ⟨gb193, 1, none⟩ = some (.int .u64 t188) := (blk_cell BK193.out 1).trans rfl; have hcz34_2 : w32.cell? ⟨gb193, 2, none⟩ = some (.int .u64 t189) := (blk_cell BK193.out 2).trans rfl; have hcz34_3 : w32.cell? ⟨gb193, 3, none⟩ = some (.int .u64 t190) := (blk_cell BK193.out 3).trans rfl; have hcz34_4 : w32.cell? ⟨gb193, 4, none⟩ = some (.int .i64 t191) := (blk_cell BK193.out 4).trans rfl; have hfz34_0 := blk_frozen BK193.out 0; have hfz34_1 := blk_frozen BK193.out 1; have hfz34_2 := blk_frozen BK193.out 2; have hfz34_3 := blk_frozen BK193.out 3; have hfz34_4 := blk_frozen BK193.out 4))
            go_ret2
            exact ⟨by first | rfl | (simp [errW_none, errW_some] <;> rfl) | (simp [*, errW_none, errW_some] <;> rfl), by repeat (first | (with_reducible first | exact HB.out | apply pA | apply pN | apply p1 | refine pS ?_ GE186.out | refine pS ?_ GE193.out) | exact HB.out)⟩
          · rw [if_neg c25] at H
            have c25b0 : decide (a1_2 < (wrap64 (-t191))) = false := decide_eq_false c25
            clear c25
            by_cases c35 : a1_2 > t191
            · rw [if_pos c35] at H
              have c35b0 : decide (t191 < a1_2) = true := decide_eq_true c35
              clear c35
              simp only [Option.some.injEq, Prod.mk.injEq] at H
              obtain ⟨rfl, rfl⟩ := H
              go_enter Try.func18, Try.ntmps18
              go_wp2_with (first | ((with_reducible refine gD (N := 3) rfl ?_); refine bE3 3 #[.int .i64 a1_0, .bool a1_1, .int .i64 a1_2, .int .u64 a1_3] 40 ?hr ?_; (case hr => first | (go_simp; done) | (go_simp; rfl)); intro gb186 hg w36 hbox hb; have n0_ := Aside0.mk (bS3 HB.out hb); have n1_ := Aside0.mk (hbox); have n2_ := Aside0.mk ((bZ3 hg HB.out)); have n3_ := Aside0.mk ((bZ3 hg HB.out)); clear HB; have HB := n0_; have BK186 := n1_; have GW186 := n2_; have GE186 := n3_; clear n0_ n1_ n2_ n3_; clear hb hbox hg) | ((with_reducible refine gC (f := 32) rfl ?_); (with_reducible refine gD (N := 16) rfl ?_); refine goesY_ (some 16) Try.func32 #[.int .i64 a0] ?_; (with_reducible refine (shape_Of.calls a0 t187 t188 t189 t190 t191 none _ A3.out).mono ?_); rintro e w37 ⟨rfl, hb⟩; refine ⟨_, rfl, ?_⟩; have n0_ := Aside0.mk (bB3 BK186.out hb); have n1_ := Aside0.mk (bS3 HB.out hb); clear BK186; clear HB; have BK186 := n0_; have HB := n1_; clear n0_ n1_; (try clear hb); (try clear hb2); (try clear hk); (try clear hi); (try simp only [errW_none, errW_some])) | ((with_reducible refine gD (N := 6) rfl ?_); refine bE3 6 #[.int .i64 0, .int .u64 0, .int .u64 0, .int .u64 0, .int .i64 0] 68 ?hr ?_; (case hr => first | (go_simp; done) | (go_simp; rfl)); intro gb193 hg w38 hbox hb; have n0_ := Aside0.mk (bB3 BK186.out hb); have n1_ := Aside0.mk (bS3 HB.out hb); have n2_ := Aside0.mk (hbox); have n3_ := Aside0.mk ((bZ3 hg HB.out)); have n4_ := Aside0.mk ((bZ3 hg HB.out)); have n5_ := Aside0.mk ((bL3 hg BK186.out)); have n6_ := Aside0.mk ((bG3 hg BK186.out)); clear BK186; clear HB; have BK186 := n0_; have HB := n1_; have BK193 := n2_; have GW193 := n3_; have GE193 := n4_; have NB186_193 := n5_; have NB193_186 := n6_; clear n0_ n1_ n2_ n3_ n4_ n5_ n6_; clear hb hbox hg; have hnb39 := NB193_186.out; have hnc39 := NB186_193.out; have hcz40_0 : w38.cell? ⟨gb193, 0, none⟩ = some (.int .i64 0) := (blk_cell BK193.out 0).trans rfl; have hcz40_1 : w38.cell? ⟨gb193, 1, none⟩ = some (.int .u64 0) := (blk_cell BK193.out 1).trans rfl; have hcz40_2 : w38.cell? ⟨gb193, 2, none⟩ = some (.int .u64 0) := (blk_cell BK193.out 2).trans rfl; have hcz40_3 : w38.cell? ⟨gb193, 3, none⟩ = some (.int .u64 0) := (blk_cell BK193.out 3).trans rfl; have hcz40_4 : w38.cell? ⟨gb193, 4, none⟩ = some (.int .i64 0) := (blk_cell BK193.out 4).trans rfl; have hfz40_0 := blk_frozen BK193.out 0; have hfz40_1 := blk_frozen BK193.out 1; have hfz40_2 := blk_frozen BK193.out 2; have hfz40_3 := blk_frozen BK193.out 3; have hfz40_4 := blk_frozen BK193.out 4; have hcz41_0 : w38.cell? ⟨gb186, 0, none⟩ = some (.int .i64 a1_0) := (blk_cell BK186.out 0).trans rfl; have hcz41_1 : w38.cell? ⟨gb186, 1, none⟩ = some (.bool a1_1) := (blk_cell BK186.out 1).trans rfl; have hcz41_2 : w38.cell? ⟨gb186, 2, none⟩ = some (.int .i64 a1_2) := (blk_cell BK186.out 2).trans rfl; have hcz41_3 : w38.cell? ⟨gb186, 3, none⟩ = some (.int .u64 a1_3) := (blk_cell BK186.out 3).trans rfl; have hfz41_0 := blk_frozen BK186.out 0; have hfz41_1 := blk_frozen BK186.out 1; have hfz41_2 := blk_frozen BK186.out 2; have hfz41_3 := blk_frozen BK186.out 3) | ((with_reducible refine gC (f := 37) rfl ?_); (with_reducible refine gD (N := 25) rfl ?_); refine goesY_ (some 25) Try.func37 #[.agg #[.int .i64 a1_0, .bool a1_1, .int .i64 a1_2, .int .u64 a1_3]] ?_; (with_reducible refine (codec_sound.calls k a1_0 a1_1 a1_2 a1_3 true _ A4.out).mono ?_); rintro e w42 ⟨rfl, hb⟩; refine ⟨_, rfl, ?_⟩; have n0_ := Aside0.mk (bB (g := gb186) (o := .cells #[.int .i64 a1_0, .bool a1_1, .int .i64 a1_2, .int .u64 a1_3] 40 (0, 0)) (by (with_reducible repeat (first | refine bN ?_ _ | refine bD ?_ | refine bA ?_ _)); refine blk_far ?_ NB186_193.out _; (with_reducible repeat (first | refine bN ?_ _ | refine bD ?_ | refine bA ?_ _)); refine blk_far ?_ NB186_193.out _; (with_reducible repeat (first | refine bN ?_ _ | refine bD ?_ | refine bA ?_ _)); refine blk_far ?_ NB186_193.out _; (with_reducible repeat (first | refine bN ?_ _ | refine bD ?_ | refine bA ?_ _)); refine blk_far ?_ NB186_193.out _; (with_reducible repeat (first | refine bN ?_ _ | refine bD ?_ | refine bA ?_ _)); refine blk_far ?_ NB186_193.out _; (with_reducible repeat (first | refine bN ?_ _ | refine bD ?_ | refine bA ?_ _)); exact BK186.out) hb); have n1_ := Aside0.mk (bB (g := gb193) (o := .cells #[.int .i64 t187, .int .u64 t188, .int .u64 t189, .int .u64 t190, .int .i64 t191] 68 (0, 0)) (by (with_reducible repeat (first | refine bN ?_ _ | refine bD ?_ | refine bA ?_ _)); refine blk_put (cs := #[.int .i64 t187, .int .u64 t188, .int .u64 t189, .int .u64 t190, .int .i64 0]) ?_ 4 _ rfl; (with_reducible repeat (first | refine bN ?_ _ | refine bD ?_ | refine bA ?_ _)); refine blk_put (cs := #[.int .i64 t187, .int .u64 t188, .int .u64 t189, .int .u64 0, .int .i64 0]) ?_ 3 _ rfl; (with_reducible repeat (first | refine bN ?_ _ | refine bD ?_ | refine bA ?_ _)); refine blk_put (cs := #[.int .i64 t187, .int .u64 t188, .int .u64 0, .int .u64 0, .int .i64 0]) ?_ 2 _ rfl; (with_reducible repeat (first | refine bN ?_ _ | refine bD ?_ | refine bA ?_ _)); refine blk_put (cs := #[.int .i64 t187, .int .u64 0, .int .u64 0, .int .u64 0, .int .i64 0]) ?_ 1 _ rfl; (with_reducible repeat (first | refine bN ?_ _ | refine bD ?_ | refine bA ?_ _)); refine blk_put (cs := #[.int .i64 0, .int .u64 0, .int .u64 0, .int .u64 0, .int .i64 0]) ?_ 0 _ rfl; (with_reducible repeat (first | refine bN ?_ _ | refine bD ?_ | refine bA ?_ _)); exact BK193.out) hb); have n2_ := Aside0.mk (bS3 HB.out hb); clear BK186; clear BK193; clear HB; have BK186 := n0_; have BK193 := n1_; have HB := n2_; clear n0_ n1_ n2_; (try clear hb); (try clear hb2); (try clear hk); (try clear hi); have hcz43_0 : w42.cell? ⟨gb186, 0, none⟩ = some (.int .i64 a1_0) := (blk_cell BK186.out 0).trans rfl; have hcz43_1 : w42.cell? ⟨gb186, 1, none⟩ = some (.bool a1_1) := (blk_cell BK186.out 1).trans rfl; have hcz43_2 : w42.cell? ⟨gb186, 2, none⟩ = some (.int .i64 a1_2) := (blk_cell BK186.out 2).trans rfl; have hcz43_3 : w42.cell? ⟨gb186, 3, none⟩ = some (.int .u64 a1_3) := (blk_cell BK186.out 3).trans rfl; have hfz43_0 := blk_frozen BK186.out 0; have hfz43_1 := blk_frozen BK186.out 1; have hfz43_2 := blk_frozen BK186.out 2; have hfz43_3 := blk_frozen BK186.out 3; have hcz44_0 : w42.cell? ⟨gb193, 0, none⟩ = some (.int .i64 t187) := (blk_cell BK193.out 0).trans rfl; have hcz44_1 : w42.cell? ⟨gb193, 1, none⟩ = some (.int .u64 t188) := (blk_cell BK193.out 1).trans rfl; have hcz44_2 : w42.cell? ⟨gb193, 2, none⟩ = some (.int .u64 t189) := (blk_cell BK193.out 2).trans rfl; have hcz44_3 : w42.cell? ⟨gb193, 3, none⟩ = some (.int .u64 t190) := (blk_cell BK193.out 3).trans rfl; have hcz44_4 : w42.cell? ⟨gb193, 4, none⟩ = some (.int .i64 t191) := (blk_cell BK193.out 4).trans rfl; have hfz44_0 := blk_frozen BK193.out 0; have hfz44_1 := blk_frozen BK193.out 1; have hfz44_2 := blk_frozen BK193.out 2; have hfz44_3 := blk_frozen BK193.out 3; have hfz44_4 := blk_frozen BK193.out 4))
              go_ret2
              exact ⟨by first | rfl | (simp [errW_none, errW_some] <;> rfl) | (simp [*, errW_none, errW_some] <;> rfl), by repeat (first | (with_reducible first | exact HB.out | apply pA | apply pN | apply p1 | refine pS ?_ GE186.out | refine pS ?_ GE193.out) | exact HB.out)⟩
            · rw [if_neg c35] at H
              have c35b0 : decide (t191 < a1_2) = false := decide_eq_false c35
              clear c35
              have HC45 := Aside0.mk H
              clear H
              go_enter Try.func18, Try.ntmps18
              go_upto_if 68 with (first | ((with_reducible refine gD (N := 3) rfl ?_); refine bE3 3 #[.int .i64 a1_0, .bool a1_1, .int .i64 a1_2, .int .u64 a1_3] 40 ?hr ?_; (case hr => first | (go_simp; done) | (go_simp; rfl)); intro gb186 hg w46 hbox hb; have n0_ := Aside0.mk (bS3 HB.out hb); have n1_ := Aside0.mk (hbox); have n2_ := Aside0.mk ((bZ3 hg HB.out)); have n3_ := Aside0.mk ((bZ3 hg HB.out)); clear HB; have HB := n0_; have BK186 := n1_; have GW186 := n2_; have GE186 := n3_; clear n0_ n1_ n2_ n3_; clear hb hbox hg) | ((with_reducible refine gC (f := 32) rfl ?_); (with_reducible refine gD (N := 16) rfl ?_); refine goesY_ (some 16) Try.func32 #[.int .i64 a0] ?_; (with_reducible refine (shape_Of.calls a0 t187 t188 t189 t190 t191 none _ A3.out).mono ?_); rintro e w47 ⟨rfl, hb⟩; refine ⟨_, rfl, ?_⟩; have n0_ := Aside0.mk (bB3 BK186.out hb); have n1_ := Aside0.mk (bS3 HB.out hb); clear BK186; clear HB; have BK186 := n0_; have HB := n1_; clear n0_ n1_; (try clear hb); (try clear hb2); (try clear hk); (try clear hi); (try simp only [errW_none, errW_some])) | ((with_reducible refine gD (N := 6) rfl ?_); refine bE3 6 #[.int .i64 0, .int .u64 0, .int .u64 0, .int .u64 0, .int .i64 0] 68 ?hr ?_; (case hr => first | (go_simp; done) | (go_simp; rfl)); intro gb193 hg w48 hbox hb; have n0_ := Aside0.mk (bB3 BK186.out hb); have n1_ := Aside0.mk (bS3 HB.out hb); have n2_ := Aside0.mk (hbox); have n3_ := Aside0.mk ((bZ3 hg HB.out)); have n4_ := Aside0.mk ((bZ3 hg HB.out)); have n5_ := Aside0.mk ((bL3 hg BK186.out)); have n6_ := Aside0.mk ((bG3 hg BK186.out)); clear BK186; clear HB; have BK186 := n0_; have HB := n1_; have BK193 := n2_; have GW193 := n3_; have GE193 := n4_; have NB186_193 := n5_; have NB193_186 := n6_; clear n0_ n1_ n2_ n3_ n4_ n5_ n6_; clear hb hbox hg; have hnb49 := NB193_186.out; have hnc49 := NB186_193.out; have hcz50_0 : w48.cell? ⟨gb193, 0, none⟩ = some (.int .i64 0) := (blk_cell BK193.out 0).trans rfl; have hcz50_1 : w48.cell? ⟨gb193, 1, none⟩ = some (.int .u64 0) := (blk_cell BK193.out 1).trans rfl; have hcz50_2 : w48.cell? ⟨gb193, 2, none⟩ = some (.int .u64 0) := (blk_cell BK193.out 2).trans rfl; have hcz50_3 : w48.cell? ⟨gb193, 3, none⟩ = some (.int .u64 0) := (blk_cell BK193.out 3).trans rfl; have hcz50_4 : w48.cell? ⟨gb193, 4, none⟩ = some (.int .i64 0) := (blk_cell BK193.out 4).trans rfl; have hfz50_0 := blk_frozen BK193.out 0; have hfz50_1 := blk_frozen BK193.out 1; have hfz50_2 := blk_frozen BK193.out 2; have hfz50_3 := blk_frozen BK193.out 3; have hfz50_4 := blk_frozen BK193.out 4; have hcz51_0 : w48.cell? ⟨gb186, 0, none⟩ = some (.int .i64 a1_0) := (blk_cell BK186.out 0).trans rfl; have hcz51_1 : w48.cell? ⟨gb186, 1, none⟩ = some (.bool a1_1) := (blk_cell BK186.out 1).trans rfl; have hcz51_2 : w48.cell? ⟨gb186, 2, none⟩ = some (.int .i64 a1_2) := (blk_cell BK186.out 2).trans rfl; have hcz51_3 : w48.cell? ⟨gb186, 3, none⟩ = some (.int .u64 a1_3) := (blk_cell BK186.out 3).trans rfl; have hfz51_0 := blk_frozen BK186.out 0; have hfz51_1 := blk_frozen BK186.out 1; have hfz51_2 := blk_frozen BK186.out 2; have hfz51_3 := blk_frozen BK186.out 3) | ((with_reducible refine gC (f := 37) rfl ?_); (with_reducible refine gD (N := 25) rfl ?_); refine goesY_ (some 25) Try.func37 #[.agg #[.int .i64 a1_0, .bool a1_1, .int .i64 a1_2, .int .u64 a1_3]] ?_; (with_reducible refine (codec_sound.calls k a1_0 a1_1 a1_2 a1_3 true _ A4.out).mono ?_); rintro e w52 ⟨rfl, hb⟩; refine ⟨_, rfl, ?_⟩; have n0_ := Aside0.mk (bB (g := gb186) (o := .cells #[.int .i64 a1_0, .bool a1_1, .int .i64 a1_2, .int .u64 a1_3] 40 (0, 0)) (by (with_reducible repeat (first | refine bN ?_ _ | refine bD ?_ | refine bA ?_ _)); refine blk_far ?_ NB186_193.out _; (with_reducible repeat (first | refine bN ?_ _ | refine bD ?_ | refine bA ?_ _)); refine blk_far ?_ NB186_193.out _; (with_reducible repeat (first | refine bN ?_ _ | refine bD ?_ | refine bA ?_ _)); refine blk_far ?_ NB186_193.out _; (with_reducible repeat (first | refine bN ?_ _ | refine bD ?_ | refine bA ?_ _)); refine blk_far ?_ NB186_193.out _; (with_reducible repeat (first | refine bN ?_ _ | refine bD ?_ | refine bA ?_ _)); refine blk_far ?_ NB186_193.out _; (with_reducible repeat (first | refine bN ?_ _ | refine bD ?_ | refine bA ?_ _)); exact BK186.out) hb); have n1_ := Aside0.mk (bB (g := gb193) (o := .cells #[.int .i64 t187, .int .u64 t188, .int .u64 t189, .int .u64 t190, .int .i64 t191] 68 (0, 0)) (by (with_reducible repeat (first | refine bN ?_ _ | refine bD ?_ | refine bA ?_ _)); refine blk_put (cs := #[.int .i64 t187, .int .u64 t188, .int .u64 t189, .int .u64 t190, .int .i64 0]) ?_ 4 _ rfl; (with_reducible repeat (first | refine bN ?_ _ | refine bD ?_ | refine bA ?_ _)); refine blk_put (cs := #[.int .i64 t187, .int .u64 t188, .int .u64 t189, .int .u64 0, .int .i64 0]) ?_ 3 _ rfl; (with_reducible repeat (first | refine bN ?_ _ | refine bD ?_ | refine bA ?_ _)); refine blk_put (cs := #[.int .i64 t187, .int .u64 t188, .int .u64 0, .int .u64 0, .int .i64 0]) ?_ 2 _ rfl; (with_reducible repeat (first | refine bN ?_ _ | refine bD ?_ | refine bA ?_ _)); refine blk_put (cs := #[.int .i64 t187, .int .u64 0, .int .u64 0, .int .u64 0, .int .i64 0]) ?_ 1 _ rfl; (with_reducible repeat (first | refine bN ?_ _ | refine bD ?_ | refine bA ?_ _)); refine blk_put (cs := #[.int .i64 0, .int .u64 0, .int .u64 0, .int .u64 0, .int .i64 0]) ?_ 0 _ rfl; (with_reducible repeat (first | refine bN ?_ _ | refine bD ?_ | refine bA ?_ _)); exact BK193.out) hb); have n2_ := Aside0.mk (bS3 HB.out hb); clear BK186; clear BK193; clear HB; have BK186 := n0_; have BK193 := n1_; have HB := n2_; clear n0_ n1_ n2_; (try clear hb); (try clear hb2); (try clear hk); (try clear hi); have hcz53_0 : w52.cell? ⟨gb186, 0, none⟩ = some (.int .i64 a1_0) := (blk_cell BK186.out 0).trans rfl; have hcz53_1 : w52.cell? ⟨gb186, 1, none⟩ = some (.bool a1_1) := (blk_cell BK186.out 1).trans rfl; have hcz53_2 : w52.cell? ⟨gb186, 2, none⟩ = some (.int .i64 a1_2) := (blk_cell BK186.out 2).trans rfl; have hcz53_3 : w52.cell? ⟨gb186, 3, none⟩ = some (.int .u64 a1_3) := (blk_cell BK186.out 3).trans rfl; have hfz53_0 := blk_frozen BK186.out 0; have hfz53_1 := blk_frozen BK186.out 1; have hfz53_2 := blk_frozen BK186.out 2; have hfz53_3 := blk_frozen BK186.out 3; have hcz54_0 : w52.cell? ⟨gb193, 0, none⟩ = some (.int .i64 t187) := (blk_cell BK193.out 0).trans rfl; have hcz54_1 : w52.cell? ⟨gb193, 1, none⟩ = some (.int .u64 t188) := (blk_cell BK193.out 1).trans rfl; have hcz54_2 : w52.cell? ⟨gb193, 2, none⟩ = some (.int .u64 t189) := (blk_cell BK193.out 2).trans rfl; have hcz54_3 : w52.cell? ⟨gb193, 3, none⟩ = some (.int .u64 t190) := (blk_cell BK193.out 3).trans rfl; have hcz54_4 : w52.cell? ⟨gb193, 4, none⟩ = some (.int .i64 t191) := (blk_cell BK193.out 4).trans rfl; have hfz54_0 := blk_frozen BK193.out 0; have hfz54_1 := blk_frozen BK193.out 1; have hfz54_2 := blk_frozen BK193.out 2; have hfz54_3 := blk_frozen BK193.out 3; have hfz54_4 := blk_frozen BK193.out 4) | ((with_reducible refine gD (N := 9) rfl ?_); refine bE3 9 #[.bool false, .bool false, .int .i64 0, .int .i64 0, .int .i64 0, .int .i64 0, .int .i64 0, .int .u64 0] 25 ?hr ?_; (case hr => first | (go_simp; done) | (go_simp; rfl)); intro gb196 hg w55 hbox hb; have n0_ := Aside0.mk (bB3 BK186.out hb); have n1_ := Aside0.mk (bB3 BK193.out hb); have n2_ := Aside0.mk (bS3 HB.out hb); have n3_ := Aside0.mk (hbox); have n4_ := Aside0.mk ((bZ3 hg HB.out)); have n5_ := Aside0.mk ((bZ3 hg HB.out)); have n6_ := Aside0.mk ((bL3 hg BK186.out)); have n7_ := Aside0.mk ((bG3 hg BK186.out)); have n8_ := Aside0.mk ((bL3 hg BK193.out)); have n9_ := Aside0.mk ((bG3 hg BK193.out)); clear BK186; clear BK193; clear HB; have BK186 := n0_; have BK193 := n1_; have HB := n2_; have BK196 := n3_; have GW196 := n4_; have GE196 := n5_; have NB186_196 := n6_; have NB196_186 := n7_; have NB193_196 := n8_; have NB196_193 := n9_; clear n0_ n1_ n2_ n3_ n4_ n5_ n6_ n7_ n8_ n9_; clear hb hbox hg; have hnb56 := NB196_186.out; have hnc56 := NB186_196.out; have hnb57 := NB196_193.out; have hnc57 := NB193_196.out; have hcz58_0 : w55.cell? ⟨gb196, 0, none⟩ = some (.bool false) := (blk_cell BK196.out 0).trans rfl; have hcz58_1 : w55.cell? ⟨gb196, 1, none⟩ = some (.bool false) := (blk_cell BK196.out 1).trans rfl; have hcz58_2 : w55.cell? ⟨gb196, 2, none⟩ = some (.int .i64 0) := (blk_cell BK196.out 2).trans rfl; have hcz58_3 : w55.cell? ⟨gb196, 3, none⟩ = some (.int .i64 0) := (blk_cell BK196.out 3).trans rfl; have hcz58_4 : w55.cell? ⟨gb196, 4, none⟩ = some (.int .i64 0) := (blk_cell BK196.out 4).trans rfl; have hcz58_5 : w55.cell? ⟨gb196, 5, none⟩ = some (.int .i64 0) := (blk_cell BK196.out 5).trans rfl; have hcz58_6 : w55.cell? ⟨gb196, 6, none⟩ = some (.int .i64 0) := (blk_cell BK196.out 6).trans rfl; have hcz58_7 : w55.cell? ⟨gb196, 7, none⟩ = some (.int .u64 0) := (blk_cell BK196.out 7).trans rfl; have hfz58_0 := blk_frozen BK196.out 0; have hfz58_1 := blk_frozen BK196.out 1; have hfz58_2 := blk_frozen BK196.out 2; have hfz58_3 := blk_frozen BK196.out 3; have hfz58_4 := blk_frozen BK196.out 4; have hfz58_5 := blk_frozen BK196.out 5; have hfz58_6 := blk_frozen BK196.out 6; have hfz58_7 := blk_frozen BK196.out 7))
              (try simp only [Act.put, List.setIfInBounds_toArray, List.set_cons_zero, List.set_cons_succ])
              go_cut [] (fun wc => ∃ (kq : Nat) (x197002_44 : Int), Aside0 (codec_Encode.j0 kq a0 a1_0 a1_1 a1_2 a1_3 a1_1 (decide ((a1_2 / 4) ≥ 0)) x197002_44 (a1_2 / 4) 0 (Go.bits .and .i64 a1_2 3) 0 0 = some (r1, r2)) ∧ Aside0 (kq ≤ k) ∧ Aside0 (wc.heap[gb186]? = some (.cells #[.int .i64 a1_0, .bool a1_1, .int .i64 a1_2, .int .u64 a1_3] 40 (0, 0))) ∧ Aside0 (wc.heap[gb193]? = some (.cells #[.int .i64 t187, .int .u64 t188, .int .u64 t189, .int .u64 t190, .int .i64 t191] 68 (0, 0))) ∧ Aside0 (wc.heap[gb196]? = some (.cells #[.bool a1_1, .bool (decide ((a1_2 / 4) ≥ 0)), .int .i64 x197002_44, .int .i64 (a1_2 / 4), .int .i64 0, .int .i64 (Go.bits .and .i64 a1_2 3), .int .i64 0, .int .u64 0] 25 (0, 0))) ∧ Aside0 (Below w.heap.size w wc))
              case first =>
                have H := HC45.out
                clear HC45
                by_cases c59 : (a1_2 / 4) ≥ 0
                · rw [if_pos c59] at H
                  have c59b0 : decide (0 ≤ (a1_2 / 4)) = true := decide_eq_true c59
                  clear c59
                  (first | rw [c59b0] | (simp only [i64_w, i32_w]; rw [c59b0]) | skip)
                  have H' := Aside0.mk H
                  clear H
                  have hnb60 := NB196_186.out
                  have hnc60 := NB186_196.out
                  have hnb61 := NB196_193.out
                  have hnc61 := NB193_196.out
                  have hcz62_0 : w55.cell? ⟨gb196, 0, none⟩ = some (.bool false) := (blk_cell BK196.out 0).trans rfl
                  have hcz62_1 : w55.cell? ⟨gb196, 1, none⟩ = some (.bool false) := (blk_cell BK196.out 1).trans rfl
                  have hcz62_2 : w55.cell? ⟨gb196, 2, none⟩ = some (.int .i64 0) := (blk_cell BK196.out 2).trans rfl
                  have hcz62_3 : w55.cell? ⟨gb196, 3, none⟩ = some (.int .i64 0) := (blk_cell BK196.out 3).trans rfl
                  have hcz62_4 : w55.cell? ⟨gb196, 4, none⟩ = some (.int .i64 0) := (blk_cell BK196.out 4).trans rfl
                  have hcz62_5 : w55.cell? ⟨gb196, 5, none⟩ = some (.int .i64 0) := (blk_cell BK196.out 5).trans rfl
                  have hcz62_6 : w55.cell? ⟨gb196, 6, none⟩ = some (.int .i64 0) := (blk_cell BK196.out 6).trans rfl
                  have hcz62_7 : w55.cell? ⟨gb196, 7, none⟩ = some (.int .u64 0) := (blk_cell BK196.out 7).trans rfl
                  have hfz62_0 := blk_frozen BK196.out 0
                  have hfz62_1 := blk_frozen BK196.out 1
                  have hfz62_2 := blk_frozen BK196.out 2
                  have hfz62_3 := blk_frozen BK196.out 3
                  have hfz62_4 := blk_frozen BK196.out 4
                  have hfz62_5 := blk_frozen BK196.out 5
                  have hfz62_6 := blk_frozen BK196.out 6
                  have hfz62_7 := blk_frozen BK196.out 7
                  go_wp2
                  go_meet
                  case rel => exact ⟨_, (wrap64 ((a1_2 / 4) + 1)), H', ⟨by first | omega | exact Nat.le_refl _⟩, ⟨by (with_reducible repeat (first | refine bN ?_ _ | refine bD ?_ | refine bA ?_ _)); refine blk_far ?_ NB186_196.out _; (with_reducible repeat (first | refine bN ?_ _ | refine bD ?_ | refine bA ?_ _)); refine blk_far ?_ NB186_196.out _; (with_reducible repeat (first | refine bN ?_ _ | refine bD ?_ | refine bA ?_ _)); refine blk_far ?_ NB186_196.out _; (with_reducible repeat (first | refine bN ?_ _ | refine bD ?_ | refine bA ?_ _)); refine blk_far ?_ NB186_196.out _; (with_reducible repeat (first | refine bN ?_ _ | refine bD ?_ | refine bA ?_ _)); refine blk_far ?_ NB186_196.out _; (with_reducible repeat (first | refine bN ?_ _ | refine bD ?_ | refine bA ?_ _)); refine blk_far ?_ NB186_196.out _; (with_reducible repeat (first | refine bN ?_ _ | refine bD ?_ | refine bA ?_ _)); refine blk_far ?_ NB186_196.out _; (with_reducible repeat (first | refine bN ?_ _ | refine bD ?_ | refine bA ?_ _)); refine blk_far ?_ NB186_196.out _; (with_reducible repeat (first | refine bN ?_ _ | refine bD ?_ | refine bA ?_ _)); refine blk_far ?_ NB186_196.out _; (with_reducible repeat (first | refine bN ?_ _ | refine bD ?_ | refine bA ?_ _)); exact BK186.out⟩, ⟨by (with_reducible repeat (first | refine bN ?_ _ | refine bD ?_ | refine bA ?_ _)); refine blk_far ?_ NB193_196.out _; (with_reducible repeat (first | refine bN ?_ _ | refine bD ?_ | refine bA ?_ _)); refine blk_far ?_ NB193_196.out _; (with_reducible repeat (first | refine bN ?_ _ | refine bD ?_ | refine bA ?_ _)); refine blk_far ?_ NB193_196.out _; (with_reducible repeat (first | refine bN ?_ _ | refine bD ?_ | refine bA ?_ _)); refine blk_far ?_ NB193_196.out _; (with_reducible repeat (first | refine bN ?_ _ | refine bD ?_ | refine bA ?_ _)); refine blk_far ?_ NB193_196.out _; (with_reducible repeat (first | refine bN ?_ _ | refine bD ?_ | refine bA ?_ _)); refine blk_far ?_ NB193_196.out _; (with_reducible repeat (first | refine bN ?_ _ | refine bD ?_ | refine bA ?_ _)); refine blk_far ?_ NB193_196.out _; (with_reducible repeat (first | refine bN ?_ _ | refine bD ?_ | refine bA ?_ _)); refine blk_far ?_ NB193_196.out _; (with_reducible repeat (first | refine bN ?_ _ | refine bD ?_ | refine bA ?_ _)); refine blk_far ?_ NB193_196.out _; (with_reducible repeat (first | refine bN ?_ _ | refine bD ?_ | refine bA ?_ _)); exact BK193.out⟩, ⟨by (with_reducible repeat (first | refine bN ?_ _ | refine bD ?_ | refine bA ?_ _)); refine blk_put (cs := #[.bool a1_1, .bool (decide ((a1_2 / 4) ≥ 0)), .int .i64 (wrap64 (-(a1_2 / 4))), .int .i64 (a1_2 / 4), .int .i64 0, .int .i64 (Go.bits .and .i64 a1_2 3), .int .i64 0, .int .u64 0]) ?_ 2 _ rfl; (with_reducible repeat (first | refine bN ?_ _ | refine bD ?_ | refine bA ?_ _)); refine blk_put (cs := #[.bool a1_1, .bool (decide ((a1_2 / 4) ≥ 0)), .int .i64 (wrap64 (-(a1_2 / 4))), .int .i64 (a1_2 / 4), .int .i64 0, .int .i64 (Go.bits .and .i64 a1_2 3), .int .i64 0, .int .u64 0]) ?_ 7 _ rfl; (with_reducible repeat (first | refine bN ?_ _ | refine bD ?_ | refine bA ?_ _)); refine blk_put (cs := #[.bool a1_1, .bool (decide ((a1_2 / 4) ≥ 0)), .int .i64 (wrap64 (-(a1_2 / 4))), .int .i64 (a1_2 / 4), .int .i64 0, .int .i64 (Go.bits .and .i64 a1_2 3), .int .i64 0, .int .u64 0]) ?_ 6 _ rfl; (with_reducible repeat (first | refine bN ?_ _ | refine bD ?_ | refine bA ?_ _)); refine blk_put (cs := #[.bool a1_1, .bool (decide ((a1_2 / 4) ≥ 0)), .int .i64 (wrap64 (-(a1_2 / 4))), .int .i64 (a1_2 / 4), .int .i64 0, .int .i64 0, .int .i64 0, .int .u64 0]) ?_ 5 _ rfl; (with_reducible repeat (first | refine bN ?_ _ | refine bD ?_ | refine bA ?_ _)); refine blk_put (cs := #[.bool a1_1, .bool (decide ((a1_2 / 4) ≥ 0)), .int .i64 (wrap64 (-(a1_2 / 4))), .int .i64 (a1_2 / 4), .int .i64 0, .int .i64 0, .int .i64 0, .int .u64 0]) ?_ 4 _ rfl; (with_reducible repeat (first | refine bN ?_ _ | refine bD ?_ | refine bA ?_ _)); refine blk_put (cs := #[.bool a1_1, .bool (decide ((a1_2 / 4) ≥ 0)), .int .i64 (wrap64 (-(a1_2 / 4))), .int .i64 0, .int .i64 0, .int .i64 0, .int .i64 0, .int .u64 0]) ?_ 3 _ rfl; (with_reducible repeat (first | refine bN ?_ _ | refine bD ?_ | refine bA ?_ _)); refine blk_put (cs := #[.bool a1_1, .bool (decide ((a1_2 / 4) ≥ 0)), .int .i64 0, .int .i64 0, .int .i64 0, .int .i64 0, .int .i64 0, .int .u64 0]) ?_ 2 _ rfl; (with_reducible repeat (first | refine bN ?_ _ | refine bD ?_ | refine bA ?_ _)); refine blk_put (cs := #[.bool a1_1, .bool false, .int .i64 0, .int .i64 0, .int .i64 0, .int .i64 0, .int .i64 0, .int .u64 0]) ?_ 1 _ (by first | rfl | (simp only [ge_iff_le, c59b0]; rfl)); (with_reducible repeat (first | refine bN ?_ _ | refine bD ?_ | refine bA ?_ _)); refine blk_put (cs := #[.bool false, .bool false, .int .i64 0, .int .i64 0, .int .i64 0, .int .i64 0, .int .i64 0, .int .u64 0]) ?_ 0 _ rfl; (with_reducible repeat (first | refine bN ?_ _ | refine bD ?_ | refine bA ?_ _)); exact BK196.out⟩, ⟨by repeat (first | (with_reducible first | exact HB.out | apply pA | apply pN | apply p1 | refine pS ?_ GE186.out | refine pS ?_ GE193.out | refine pS ?_ GE196.out) | exact HB.out)⟩⟩
                · rw [if_neg c59] at H
                  have c59b0 : decide (0 ≤ (a1_2 / 4)) = false := decide_eq_false c59
                  clear c59
                  (first | rw [c59b0] | (simp only [i64_w, i32_w]; rw [c59b0]) | skip)
                  have H' := Aside0.mk H
                  clear H
                  go_wp2
                  go_meet
                  case rel => exact ⟨_, (wrap64 (-(a1_2 / 4))), H', ⟨by first | omega | exact Nat.le_refl _⟩, ⟨by (with_reducible repeat (first | refine bN ?_ _ | refine bD ?_ | refine bA ?_ _)); refine blk_far ?_ NB186_196.out _; (with_reducible repeat (first | refine bN ?_ _ | refine bD ?_ | refine bA ?_ _)); refine blk_far ?_ NB186_196.out _; (with_reducible repeat (first | refine bN ?_ _ | refine bD ?_ | refine bA ?_ _)); refine blk_far ?_ NB186_196.out _; (with_reducible repeat (first | refine bN ?_ _ | refine bD ?_ | refine bA ?_ _)); refine blk_far ?_ NB186_196.out _; (with_reducible repeat (first | refine bN ?_ _ | refine bD ?_ | refine bA ?_ _)); refine blk_far ?_ NB186_196.out _; (with_reducible repeat (first | refine bN ?_ _ | refine bD ?_ | refine bA ?_ _)); refine blk_far ?_ NB186_196.out _; (with_reducible repeat (first | refine bN ?_ _ | refine bD ?_ | refine bA ?_ _)); refine blk_far ?_ NB186_196.out _; (with_reducible repeat (first | refine bN ?_ _ | refine bD ?_ | refine bA ?_ _)); refine blk_far ?_ NB186_196.out _; (with_reducible repeat (first | refine bN ?_ _ | refine bD ?_ | refine bA ?_ _)); exact BK186.out⟩, ⟨by (with_reducible repeat (first | refine bN ?_ _ | refine bD ?_ | refine bA ?_ _)); refine blk_far ?_ NB193_196.out _; (with_reducible repeat (first | refine bN ?_ _ | refine bD ?_ | refine bA ?_ _)); refine blk_far ?_ NB193_196.out _; (with_reducible repeat (first | refine bN ?_ _ | refine bD ?_ | refine bA ?_ _)); refine blk_far ?_ NB193_196.out _; (with_reducible repeat (first | refine bN ?_ _ | refine bD ?_ | refine bA ?_ _)); refine blk_far ?_ NB193_196.out _; (with_reducible repeat (first | refine bN ?_ _ | refine bD ?_ | refine bA ?_ _)); refine blk_far ?_ NB193_196.out _; (with_reducible repeat (first | refine bN ?_ _ | refine bD ?_ | refine bA ?_ _)); refine blk_far ?_ NB193_196.out _; (with_reducible repeat (first | refine bN ?_ _ | refine bD ?_ | refine bA ?_ _)); refine blk_far ?_ NB193_196.out _; (with_reducible repeat (first | refine bN ?_ _ | refine bD ?_ | refine bA ?_ _)); refine blk_far ?_ NB193_196.out _; (with_reducible repeat (first | refine bN ?_ _ | refine bD ?_ | refine bA ?_ _)); exact BK193.out⟩, ⟨by (with_reducible repeat (first | refine bN ?_ _ | refine bD ?_ | refine bA ?_ _)); refine blk_put (cs := #[.bool a1_1, .bool (decide ((a1_2 / 4) ≥ 0)), .int .i64 (wrap64 (-(a1_2 / 4))), .int .i64 (a1_2 / 4), .int .i64 0, .int .i64 (Go.bits .and .i64 a1_2 3), .int .i64 0, .int .u64 0]) ?_ 7 _ rfl; (with_reducible repeat (first | refine bN ?_ _ | refine bD ?_ | refine bA ?_ _)); refine blk_put (cs := #[.bool a1_1, .bool (decide ((a1_2 / 4) ≥ 0)), .int .i64 (wrap64 (-(a1_2 / 4))), .int .i64 (a1_2 / 4), .int .i64 0, .int .i64 (Go.bits .and .i64 a1_2 3), .int .i64 0, .int .u64 0]) ?_ 6 _ rfl; (with_reducible repeat (first | refine bN ?_ _ | refine bD ?_ | refine bA ?_ _)); refine blk_put (cs := #[.bool a1_1, .bool (decide ((a1_2 / 4) ≥ 0)), .int .i64 (wrap64 (-(a1_2 / 4))), .int .i64 (a1_2 / 4), .int .i64 0, .int .i64 0, .int .i64 0, .int .u64 0]) ?_ 5 _ rfl; (with_reducible repeat (first | refine bN ?_ _ | refine bD ?_ | refine bA ?_ _)); refine blk_put (cs := #[.bool a1_1, .bool (decide ((a1_2 / 4) ≥ 0)), .int .i64 (wrap64 (-(a1_2 / 4))), .int .i64 (a1_2 / 4), .int .i64 0, .int .i64 0, .int .i64 0, .int .u64 0]) ?_ 4 _ rfl; (with_reducible repeat (first | refine bN ?_ _ | refine bD ?_ | refine bA ?_ _)); refine blk_put (cs := #[.bool a1_1, .bool (decide ((a1_2 / 4) ≥ 0)), .int .i64 (wrap64 (-(a1_2 / 4))), .int .i64 0, .int .i64 0, .int .i64 0, .int .i64 0, .int .u64 0]) ?_ 3 _ rfl; (with_reducible repeat (first | refine bN ?_ _ | refine bD ?_ | refine bA ?_ _)); refine blk_put (cs := #[.bool a1_1, .bool (decide ((a1_2 / 4) ≥ 0)), .int .i64 0, .int .i64 0, .int .i64 0, .int .i64 0, .int .i64 0, .int .u64 0]) ?_ 2 _ rfl; (with_reducible repeat (first | refine bN ?_ _ | refine bD ?_ | refine bA ?_ _)); refine blk_put (cs := #[.bool a1_1, .bool false, .int .i64 0, .int .i64 0, .int .i64 0, .int .i64 0, .int .i64 0, .int .u64 0]) ?_ 1 _ (by first | rfl | (simp only [ge_iff_le, c59b0]; rfl)); (with_reducible repeat (first | refine bN ?_ _ | refine bD ?_ | refine bA ?_ _)); refine blk_put (cs := #[.bool false, .bool false, .int .i64 0, .int .i64 0, .int .i64 0, .int .i64 0, .int .i64 0, .int .u64 0]) ?_ 0 _ rfl; (with_reducible repeat (first | refine bN ?_ _ | refine bD ?_ | refine bA ?_ _)); exact BK196.out⟩, ⟨by repeat (first | (with_reducible first | exact HB.out | apply pA | apply pN | apply p1 | refine pS ?_ GE186.out | refine pS ?_ GE193.out | refine pS ?_ GE196.out) | exact HB.out)⟩⟩
              case rest =>
                clear HC45
                try clear c1
                try clear q1
                try clear c2
                try clear p2
                try clear c3
                try clear c4
                try clear c5
                try clear c6
                try clear c6b0
                try clear c6b1
                try clear p6
                try clear c10
                try clear c15
                try clear c15b0
                try clear c15b1
                try clear c18
                try clear c19
                try clear q19
                try clear c25
                try clear c25b0
                try clear c29
                try clear c32
                try clear c35
                try clear c35b0
                try clear c37
                try clear c39
                try clear c49
                try clear c56
                try clear c57
                try clear c59
                try clear c59b0
                try clear c60
                try clear c61
                try clear hcz11_0
                try clear hcz11_1
                try clear hcz11_2
                try clear hcz11_3
                try clear hcz11_4
                try clear hcz12_0
                try clear hcz12_1
                try clear hcz12_2
                try clear hcz12_3
                try clear hcz14_0
                try clear hcz14_1
                try clear hcz14_2
                try clear hcz14_3
                try clear hcz20_0
                try clear hcz20_1
                try clear hcz20_2
                try clear hcz20_3
                try clear hcz20_4
                try clear hcz21_0
                try clear hcz21_1
                try clear hcz21_2
                try clear hcz21_3
                try clear hcz23_0
                try clear hcz23_1
                try clear hcz23_2
                try clear hcz23_3
                try clear hcz24_0
                try clear hcz24_1
                try clear hcz24_2
                try clear hcz24_3
                try clear hcz24_4
                try clear hcz30_0
                try clear hcz30_1
                try clear hcz30_2
                try clear hcz30_3
                try clear hcz30_4
                try clear hcz31_0
                try clear hcz31_1
                try clear hcz31_2
                try clear hcz31_3
                try clear hcz33_0
                try clear hcz33_1
                try clear hcz33_2
                try clear hcz33_3
                try clear hcz34_0
                try clear hcz34_1
                try clear hcz34_2
                try clear hcz34_3
                try clear hcz34_4
                try clear hcz40_0
                try clear hcz40_1
                try clear hcz40_2
                try clear hcz40_3
                try clear hcz40_4
                try clear hcz41_0
                try clear hcz41_1
                try clear hcz41_2
                try clear hcz41_3
                try clear hcz43_0
                try clear hcz43_1
                try clear hcz43_2
                try clear hcz43_3
                try clear hcz44_0
                try clear hcz44_1
                try clear hcz44_2
                try clear hcz44_3
                try clear hcz44_4
                try clear hcz50_0
                try clear hcz50_1
                try clear hcz50_2
                try clear hcz50_3
                try clear hcz50_4
                try clear hcz51_0
                try clear hcz51_1
                try clear hcz51_2
                try clear hcz51_3
                try clear hcz53_0
                try clear hcz53_1
                try clear hcz53_2
                try clear hcz53_3
                try clear hcz54_0
                try clear hcz54_1
                try clear hcz54_2
                try clear hcz54_3
                try clear hcz54_4
                try clear hcz58_0
                try clear hcz58_1
                try clear hcz58_2
                try clear hcz58_3
                try clear hcz58_4
                try clear hcz58_5
                try clear hcz58_6
                try clear hcz58_7
                try clear hcz62_0
                try clear hcz62_1
                try clear hcz62_2
                try clear hcz62_3
                try clear hcz62_4
                try clear hcz62_5
                try clear hcz62_6
                try clear hcz62_7
                try clear hfz11_0
                try clear hfz11_1
                try clear hfz11_2
                try clear hfz11_3
                try clear hfz11_4
                try clear hfz12_0
                try clear hfz12_1
                try clear hfz12_2
                try clear hfz12_3
                try clear hfz14_0
                try clear hfz14_1
                try clear hfz14_2
                try clear hfz14_3
                try clear hfz20_0
                try clear hfz20_1
                try clear hfz20_2
                try clear hfz20_3
                try clear hfz20_4
                try clear hfz21_0
                try clear hfz21_1
                try clear hfz21_2
                try clear hfz21_3
                try clear hfz23_0
                try clear hfz23_1
                try clear hfz23_2
                try clear hfz23_3
                try clear hfz24_0
                try clear hfz24_1
                try clear hfz24_2
                try clear hfz24_3
                try clear hfz24_4
                try clear hfz30_0
                try clear hfz30_1
                try clear hfz30_2
                try clear hfz30_3
                try clear hfz30_4
                try clear hfz31_0
                try clear hfz31_1
                try clear hfz31_2
                try clear hfz31_3
                try clear hfz33_0
                try clear hfz33_1
                try clear hfz33_2
                try clear hfz33_3
                try clear hfz34_0
                try clear hfz34_1
                try clear hfz34_2
                try clear hfz34_3
                try clear hfz34_4
                try clear hfz40_0
                try clear hfz40_1
                try clear hfz40_2
                try clear hfz40_3
                try clear hfz40_4
                try clear hfz41_0
                try clear hfz41_1
                try clear hfz41_2
                try clear hfz41_3
                try clear hfz43_0
                try clear hfz43_1
                try clear hfz43_2
                try clear hfz43_3
                try clear hfz44_0
                try clear hfz44_1
                try clear hfz44_2
                try clear hfz44_3
                try clear hfz44_4
                try clear hfz50_0
                try clear hfz50_1
                try clear hfz50_2
                try clear hfz50_3
                try clear hfz50_4
                try clear hfz51_0
                try clear hfz51_1
                try clear hfz51_2
                try clear hfz51_3
                try clear hfz53_0
                try clear hfz53_1
                try clear hfz53_2
                try clear hfz53_3
                try clear hfz54_0
                try clear hfz54_1
                try clear hfz54_2
                try clear hfz54_3
                try clear hfz54_4
                try clear hfz58_0
                try clear hfz58_1
                try clear hfz58_2
                try clear hfz58_3
                try clear hfz58_4
                try clear hfz58_5
                try clear hfz58_6
                try clear hfz58_7
                try clear hfz62_0
                try clear hfz62_1
                try clear hfz62_2
                try clear hfz62_3
                try clear hfz62_4
                try clear hfz62_5
                try clear hfz62_6
                try clear hfz62_7
                try clear q194
                obtain ⟨kq, x197002_44, HA, HJ44, BK186, BK193, BK196, HB⟩ := hcut
                cases kq with
                | zero => exact absurd HA.out (by simp [codec_Encode.j0])
                | succ kj44 =>
                  have H := HA.out
                  clear HA
                  simp only [codec_Encode.j0] at H
                  obtain ⟨ji63, hji63⟩ : ∃ j_ : Int, (mx (wrap64 ((wrap64 (a0 - 2)) - x197002_44)) 0) = j_ := ⟨_, rfl⟩
                  replace H : (if 0 ≤ (wrap64 (64 - (wrap64 ((ji63) - (mn (ji63) 2))))) then ((codec_Join.f kj44 a0 a1_1 (decide ((a1_2 / 4) ≥ 0)) x197002_44 (a1_2 / 4) (mn (ji63) 2) (Go.bits .and .i64 a1_2 3) (wrap64 ((ji63) - (mn (ji63) 2))) (shr .u64 (IntKind.u64.wrap (a1_3 * 2)) (wrap64 (64 - (wrap64 ((ji63) - (mn (ji63) 2))))))).bind fun bt197 => ((codec_Decode.f kj44 a0 bt197.1).bind fun bt199 => (if bt197.2.isNone = true then (if (!(bt199.1 == a1_0) || (!(bt199.2.1 == a1_1) || (!(bt199.2.2.1 == a1_2) || (!(bt199.2.2.2.1 == a1_3))))) = true then (some (0, some 8)) else (some (bt197.1, none))) else (some (0, some 8))))) else (none)) = some (r1, r2) := by first | (rw [hji63] at H; exact H) | (simp only [hji63] at H ⊢; exact H)
                  have hji63_ : (if (wrap64 ((wrap64 (a0 - 2)) - x197002_44)) < 0 then 0 else (wrap64 ((wrap64 (a0 - 2)) - x197002_44))) = ji63 := hji63
                  obtain ⟨ji64, hji64⟩ : ∃ j_ : Int, (mn (ji63) 2) = j_ := ⟨_, rfl⟩
                  replace H : (if 0 ≤ (wrap64 (64 - (wrap64 ((ji63) - (ji64))))) then ((codec_Join.f kj44 a0 a1_1 (decide ((a1_2 / 4) ≥ 0)) x197002_44 (a1_2 / 4) (ji64) (Go.bits .and .i64 a1_2 3) (wrap64 ((ji63) - (ji64))) (shr .u64 (IntKind.u64.wrap (a1_3 * 2)) (wrap64 (64 - (wrap64 ((ji63) - (ji64))))))).bind fun bt197 => ((codec_Decode.f kj44 a0 bt197.1).bind fun bt199 => (if bt197.2.isNone = true then (if (!(bt199.1 == a1_0) || (!(bt199.2.1 == a1_1) || (!(bt199.2.2.1 == a1_2) || (!(bt199.2.2.2.1 == a1_3))))) = true then (some (0, some 8)) else (some (bt197.1, none))) else (some (0, some 8))))) else (none)) = some (r1, r2) := by first | (rw [hji64] at H; exact H) | (simp only [hji64] at H ⊢; exact H)
                  have hji64_ : (if 2 < (ji63) then 2 else (ji63)) = ji64 := hji64
                  obtain ⟨ji65, hji65⟩ : ∃ j_ : Int, (wrap64 (64 - (wrap64 ((ji63) - (ji64))))) = j_ := ⟨_, rfl⟩
                  replace H : (if 0 ≤ (ji65) then ((codec_Join.f kj44 a0 a1_1 (decide ((a1_2 / 4) ≥ 0)) x197002_44 (a1_2 / 4) (ji64) (Go.bits .and .i64 a1_2 3) (wrap64 ((ji63) - (ji64))) (shr .u64 (IntKind.u64.wrap (a1_3 * 2)) (ji65))).bind fun bt197 => ((codec_Decode.f kj44 a0 bt197.1).bind fun bt199 => (if bt197.2.isNone = true then (if (!(bt199.1 == a1_0) || (!(bt199.2.1 == a1_1) || (!(bt199.2.2.1 == a1_2) || (!(bt199.2.2.2.1 == a1_3))))) = true then (some (0, some 8)) else (some (bt197.1, none))) else (some (0, some 8))))) else (none)) = some (r1, r2) := by first | (rw [hji65] at H; exact H) | (simp only [hji65] at H ⊢; exact H)
                  have hji65w : (IntKind.i64.wrap (64 - (wrap64 ((ji63) - (ji64))))) = ji65 := (i64_w _).trans hji65
                  by_cases c66 : 0 ≤ (ji65)
                  · rw [if_pos c66] at H
                    have c66b0 := eq_true c66
                    have c66b1 : decide (0 ≤ (ji65)) = true := decide_eq_true c66
                    clear c66
                    obtain ⟨ji67, hji67⟩ : ∃ j_ : Int, (shr .u64 (IntKind.u64.wrap (a1_3 * 2)) (ji65)) = j_ := ⟨_, rfl⟩
                    replace H : ((codec_Join.f kj44 a0 a1_1 (decide ((a1_2 / 4) ≥ 0)) x197002_44 (a1_2 / 4) (ji64) (Go.bits .and .i64 a1_2 3) (wrap64 ((ji63) - (ji64))) (ji67)).bind fun bt197 => ((codec_Decode.f kj44 a0 bt197.1).bind fun bt199 => (if bt197.2.isNone = true then (if (!(bt199.1 == a1_0) || (!(bt199.2.1 == a1_1) || (!(bt199.2.2.1 == a1_2) || (!(bt199.2.2.2.1 == a1_3))))) = true then (some (0, some 8)) else (some (bt197.1, none))) else (some (0, some 8))))) = some (r1, r2) := by first | (rw [hji67] at H; exact H) | (simp only [hji67] at H ⊢; exact H)
                    have hji67_ : ((IntKind.u64.wrap (a1_3 * 2)) / 2 ^ min (ji65).toNat 64) = ji67 := hji67
                    have hji67z : (ji65) ≤ 64 → ((IntKind.u64.wrap (a1_3 * 2)) / 2 ^ (ji65).toNat) = ji67 := shr_small hji67
                    replace H := Option.bind_eq_some_iff.mp H
                    obtain ⟨⟨t197, t198⟩, A680, H⟩ := H
                    replace H : ((codec_Decode.f kj44 a0 t197).bind fun bt199 => (if t198.isNone = true then (if (!(bt199.1 == a1_0) || (!(bt199.2.1 == a1_1) || (!(bt199.2.2.1 == a1_2) || (!(bt199.2.2.2.1 == a1_3))))) = true then (some (0, some 8)) else (some (t197, none))) else (some (0, some 8)))) = some (r1, r2) := H
                    have A68 := Aside0.mk A680
                    clear A680
                    replace H := Option.bind_eq_some_iff.mp H
                    obtain ⟨⟨t199, t200, t201, t202, t203⟩, A690, H⟩ := H
                    replace H : (if t198.isNone = true then (if (!(t199 == a1_0) || (!(t200 == a1_1) || (!(t201 == a1_2) || (!(t202 == a1_3))))) = true then (some (0, some 8)) else (some (t197, none))) else (some (0, some 8))) = some (r1, r2) := H
                    have A69 := Aside0.mk A690
                    clear A690
                    rcases t198 with _ | q205
                    · have H1 : (if (!(t199 == a1_0) || (!(t200 == a1_1) || (!(t201 == a1_2) || (!(t202 == a1_3))))) = true then (some (0, some 8)) else (some (t197, none))) = some (r1, r2) := by rw [if_pos (show (none : Option Int).isNone = true by rfl)] at H; exact H
                      clear H
                      have H := H1
                      clear H1
                      try simp only [errW_none, errW_some]
                      by_cases c70 : (!(t199 == a1_0) || (!(t200 == a1_1) || (!(t201 == a1_2) || (!(t202 == a1_3))))) = true
                      · rw [if_pos c70] at H
                        have c70b0 : (!(t199 == a1_0) || (!(t200 == a1_1) || (!(t201 == a1_2) || (!(t202 == a1_3))))) = true := c70
                        clear c70
                        simp only [Option.some.injEq, Prod.mk.injEq] at H
                        obtain ⟨rfl, rfl⟩ := H
                        have hnb71 := NB196_186.out
                        have hnc71 := NB186_196.out
                        have hnb72 := NB196_193.out
                        have hnc72 := NB193_196.out
                        have hcz73_0 : wc.cell? ⟨gb196, 0, none⟩ = some (.bool a1_1) := (blk_cell BK196.out 0).trans rfl
                        have hcz73_1 : wc.cell? ⟨gb196, 1, none⟩ = some (.bool (decide ((a1_2 / 4) ≥ 0))) := (blk_cell BK196.out 1).trans rfl
                        have hcz73_2 : wc.cell? ⟨gb196, 2, none⟩ = some (.int .i64 x197002_44) := (blk_cell BK196.out 2).trans rfl
                        have hcz73_3 : wc.cell? ⟨gb196, 3, none⟩ = some (.int .i64 (a1_2 / 4)) := (blk_cell BK196.out 3).trans rfl
                        have hcz73_4 : wc.cell? ⟨gb196, 4, none⟩ = some (.int .i64 0) := (blk_cell BK196.out 4).trans rfl
                        have hcz73_5 : wc.cell? ⟨gb196, 5, none⟩ = some (.int .i64 (Go.bits .and .i64 a1_2 3)) := (blk_cell BK196.out 5).trans rfl
                        have hcz73_6 : wc.cell? ⟨gb196, 6, none⟩ = some (.int .i64 0) := (blk_cell BK196.out 6).trans rfl
                        have hcz73_7 : wc.cell? ⟨gb196, 7, none⟩ = some (.int .u64 0) := (blk_cell BK196.out 7).trans rfl
                        have hfz73_0 := blk_frozen BK196.out 0
                        have hfz73_1 := blk_frozen BK196.out 1
                        have hfz73_2 := blk_frozen BK196.out 2
                        have hfz73_3 := blk_frozen BK196.out 3
                        have hfz73_4 := blk_frozen BK196.out 4
                        have hfz73_5 := blk_frozen BK196.out 5
                        have hfz73_6 := blk_frozen BK196.out 6
                        have hfz73_7 := blk_frozen BK196.out 7
                        have hnb74 := NB186_193.out
                        have hnc74 := NB193_186.out
                        have hcz75_0 : wc.cell? ⟨gb186, 0, none⟩ = some (.int .i64 a1_0) := (blk_cell BK186.out 0).trans rfl
                        have hcz75_1 : wc.cell? ⟨gb186, 1, none⟩ = some (.bool a1_1) := (blk_cell BK186.out 1).trans rfl
                        have hcz75_2 : wc.cell? ⟨gb186, 2, none⟩ = some (.int .i64 a1_2) := (blk_cell BK186.out 2).trans rfl
                        have hcz75_3 : wc.cell? ⟨gb186, 3, none⟩ = some (.int .u64 a1_3) := (blk_cell BK186.out 3).trans rfl
                        have hfz75_0 := blk_frozen BK186.out 0
                        have hfz75_1 := blk_frozen BK186.out 1
                        have hfz75_2 := blk_frozen BK186.out 2
                        have hfz75_3 := blk_frozen BK186.out 3
                        go_wp2_with (first | ((with_reducible refine gC (f := 14) rfl ?_); (with_reducible refine gD (N := 97) rfl ?_); refine goesL_ (some 97) rfl rfl Try.func14 (by kernel_rfl) rfl #[.int .i64 a0, .agg #[.bool a1_1, .bool (decide ((a1_2 / 4) ≥ 0)), .int .i64 x197002_44, .int .i64 (a1_2 / 4), .int .i64 ji64, .int .i64 (Go.bits .and .i64 a1_2 3), .int .i64 (wrap64 ((ji63) - (ji64))), .int .u64 ji67]] rfl (by (try simp only [List.map_toArray, List.map_cons, List.map_nil]); first | done | (simp only [hji63, hji64, hji67]; rfl) | rfl | (simp only [List.length_drop, List.length_take]; rfl)) ?_; (with_reducible refine (codec_Join.calls kj44 a0 a1_1 (decide ((a1_2 / 4) ≥ 0)) x197002_44 (a1_2 / 4) ji64 (Go.bits .and .i64 a1_2 3) (wrap64 ((ji63) - (ji64))) ji67 t197 none _ A68.out).mono ?_); rintro e w76 ⟨rfl, hb⟩; refine ⟨_, rfl, ?_⟩; have n0_ := Aside0.mk (bB (g := gb186) (o := .cells #[.int .i64 a1_0, .bool a1_1, .int .i64 a1_2, .int .u64 a1_3] 40 (0, 0)) (by (with_reducible repeat (first | refine bN ?_ _ | refine bD ?_ | refine bA ?_ _)); refine blk_far ?_ NB186_196.out _; (with_reducible repeat (first | refine bN ?_ _ | refine bD ?_ | refine bA ?_ _)); refine blk_far ?_ NB186_196.out _; (with_reducible repeat (first | refine bN ?_ _ | refine bD ?_ | refine bA ?_ _)); refine blk_far ?_ NB186_196.out _; (with_reducible repeat (first | refine bN ?_ _ | refine bD ?_ | refine bA ?_ _)); exact BK186.out) hb); have n1_ := Aside0.mk (bB (g := gb193) (o := .cells #[.int .i64 t187, .int .u64 t188, .int .u64 t189, .int .u64 t190, .int .i64 t191] 68 (0, 0)) (by (with_reducible repeat (first | refine bN ?_ _ | refine bD ?_ | refine bA ?_ _)); refine blk_far ?_ NB193_196.out _; (with_reducible repeat (first | refine bN ?_ _ | refine bD ?_ | refine bA ?_ _)); refine blk_far ?_ NB193_196.out _; (with_reducible repeat (first | refine bN ?_ _ | refine bD ?_ | refine bA ?_ _)); refine blk_far ?_ NB193_196.out _; (with_reducible repeat (first | refine bN ?_ _ | refine bD ?_ | refine bA ?_ _)); exact BK193.out) hb); have n2_ := Aside0.mk (bB (g := gb196) (o := .cells #[.bool a1_1, .bool (decide ((a1_2 / 4) ≥ 0)), .int .i64 x197002_44, .int .i64 (a1_2 / 4), .int .i64 ji64, .int .i64 (Go.bits .and .i64 a1_2 3), .int .i64 (wrap64 ((ji63) - (ji64))), .int .u64 ji67] 25 (0, 0)) (by (with_reducible repeat (first | refine bN ?_ _ | refine bD ?_ | refine bA ?_ _)); refine blk_put (cs := #[.bool a1_1, .bool (decide ((a1_2 / 4) ≥ 0)), .int .i64 x197002_44, .int .i64 (a1_2 / 4), .int .i64 ji64, .int .i64 (Go.bits .and .i64 a1_2 3), .int .i64 (wrap64 ((ji63) - (ji64))), .int .u64 0]) ?_ 7 _ rfl; (with_reducible repeat (first | refine bN ?_ _ | refine bD ?_ | refine bA ?_ _)); refine blk_put (cs := #[.bool a1_1, .bool (decide ((a1_2 / 4) ≥ 0)), .int .i64 x197002_44, .int .i64 (a1_2 / 4), .int .i64 ji64, .int .i64 (Go.bits .and .i64 a1_2 3), .int .i64 0, .int .u64 0]) ?_ 6 _ rfl; (with_reducible repeat (first | refine bN ?_ _ | refine bD ?_ | refine bA ?_ _)); refine blk_put (cs := #[.bool a1_1, .bool (decide ((a1_2 / 4) ≥ 0)), .int .i64 x197002_44, .int .i64 (a1_2 / 4), .int .i64 0, .int .i64 (Go.bits .and .i64 a1_2 3), .int .i64 0, .int .u64 0]) ?_ 4 _ rfl; (with_reducible repeat (first | refine bN ?_ _ | refine bD ?_ | refine bA ?_ _)); exact BK196.out) hb); have n3_ := Aside0.mk (bS3 HB.out hb); clear BK186; clear BK193; clear BK196; clear HB; have BK186 := n0_; have BK193 := n1_; have BK196 := n2_; have HB := n3_; clear n0_ n1_ n2_ n3_; (try clear hb); (try clear hb2); (try clear hk); (try clear hi); (try simp only [errW_none, errW_some])) | ((with_reducible refine gC (f := 16) rfl ?_); (with_reducible refine gD (N := 103) rfl ?_); refine goesY_ (some 103) Try.func16 #[.int .i64 a0, .int .u64 t197] ?_; (with_reducible refine (codec_Decode.calls kj44 a0 t197 t199 t200 t201 t202 t203 _ A69.out).mono ?_); rintro e w77 ⟨rfl, hb⟩; refine ⟨_, rfl, ?_⟩; have n0_ := Aside0.mk (bB3 BK186.out hb); have n1_ := Aside0.mk (bB3 BK193.out hb); have n2_ := Aside0.mk (bB (g := gb196) (o := .cells #[.bool a1_1, .bool (decide ((a1_2 / 4) ≥ 0)), .int .i64 x197002_44, .int .i64 (a1_2 / 4), .int .i64 ji64, .int .i64 (Go.bits .and .i64 a1_2 3), .int .i64 (wrap64 ((ji63) - (ji64))), .int .u64 ji67] 25 (0, 0)) (by (with_reducible repeat (first | refine bN ?_ _ | refine bD ?_ | refine bA ?_ _)); exact BK196.out) hb); have n3_ := Aside0.mk (bS3 HB.out hb); clear BK186; clear BK193; clear BK196; clear HB; have BK186 := n0_; have BK193 := n1_; have BK196 := n2_; have HB := n3_; clear n0_ n1_ n2_ n3_; (try clear hb); (try clear hb2); (try clear hk); (try clear hi); (try simp only [errW_none, errW_some])) | ((with_reducible refine gD (N := 12) rfl ?_); refine bE3 12 #[.int .i64 0, .bool false, .int .i64 0, .int .u64 0] 40 ?hr ?_; (case hr => first | (go_simp; done) | (go_simp; rfl)); intro gb204 hg w78 hbox hb; have n0_ := Aside0.mk (bB3 BK186.out hb); have n1_ := Aside0.mk (bB3 BK193.out hb); have n2_ := Aside0.mk (bB (g := gb196) (o := .cells #[.bool a1_1, .bool (decide ((a1_2 / 4) ≥ 0)), .int .i64 x197002_44, .int .i64 (a1_2 / 4), .int .i64 ji64, .int .i64 (Go.bits .and .i64 a1_2 3), .int .i64 (wrap64 ((ji63) - (ji64))), .int .u64 ji67] 25 (0, 0)) (by (with_reducible repeat (first | refine bN ?_ _ | refine bD ?_ | refine bA ?_ _)); exact BK196.out) hb); have n3_ := Aside0.mk (bS3 HB.out hb); have n4_ := Aside0.mk (hbox); have n5_ := Aside0.mk ((bZ3 hg HB.out)); have n6_ := Aside0.mk ((bZ3 hg HB.out)); have n7_ := Aside0.mk ((bL3 hg BK186.out)); have n8_ := Aside0.mk ((bG3 hg BK186.out)); have n9_ := Aside0.mk ((bL3 hg BK193.out)); have n10_ := Aside0.mk ((bG3 hg BK193.out)); have n11_ := Aside0.mk ((by rw [hg]; exact Nat.ne_of_lt (bL (g := gb196) (o := .cells #[.bool a1_1, .bool (decide ((a1_2 / 4) ≥ 0)), .int .i64 x197002_44, .int .i64 (a1_2 / 4), .int .i64 ji64, .int .i64 (Go.bits .and .i64 a1_2 3), .int .i64 (wrap64 ((ji63) - (ji64))), .int .u64 ji67] 25 (0, 0)) (by (with_reducible repeat (first | refine bN ?_ _ | refine bD ?_ | refine bA ?_ _)); exact BK196.out)) : gb196 ≠ gb204)); have n12_ := Aside0.mk ((by rw [hg]; exact Nat.ne_of_gt (bL (g := gb196) (o := .cells #[.bool a1_1, .bool (decide ((a1_2 / 4) ≥ 0)), .int .i64 x197002_44, .int .i64 (a1_2 / 4), .int .i64 ji64, .int .i64 (Go.bits .and .i64 a1_2 3), .int .i64 (wrap64 ((ji63) - (ji64))), .int .u64 ji67] 25 (0, 0)) (by (with_reducible repeat (first | refine bN ?_ _ | refine bD ?_ | refine bA ?_ _)); exact BK196.out)) : gb204 ≠ gb196)); clear BK186; clear BK193; clear BK196; clear HB; have BK186 := n0_; have BK193 := n1_; have BK196 := n2_; have HB := n3_; have BK204 := n4_; have GW204 := n5_; have GE204 := n6_; have NB186_204 := n7_; have NB204_186 := n8_; have NB193_204 := n9_; have NB204_193 := n10_; have NB196_204 := n11_; have NB204_196 := n12_; clear n0_ n1_ n2_ n3_ n4_ n5_ n6_ n7_ n8_ n9_ n10_ n11_ n12_; clear hb hbox hg; have hnb79 := NB204_186.out; have hnc79 := NB186_204.out; have hnb80 := NB204_193.out; have hnc80 := NB193_204.out; have hnb81 := NB204_196.out; have hnc81 := NB196_204.out; have hcz82_0 : w78.cell? ⟨gb204, 0, none⟩ = some (.int .i64 0) := (blk_cell BK204.out 0).trans rfl; have hcz82_1 : w78.cell? ⟨gb204, 1, none⟩ = some (.bool false) := (blk_cell BK204.out 1).trans rfl; have hcz82_2 : w78.cell? ⟨gb204, 2, none⟩ = some (.int .i64 0) := (blk_cell BK204.out 2).trans rfl; have hcz82_3 : w78.cell? ⟨gb204, 3, none⟩ = some (.int .u64 0) := (blk_cell BK204.out 3).trans rfl; have hfz82_0 := blk_frozen BK204.out 0; have hfz82_1 := blk_frozen BK204.out 1; have hfz82_2 := blk_frozen BK204.out 2; have hfz82_3 := blk_frozen BK204.out 3; have hcz83_0 : w78.cell? ⟨gb186, 0, none⟩ = some (.int .i64 a1_0) := (blk_cell BK186.out 0).trans rfl; have hcz83_1 : w78.cell? ⟨gb186, 1, none⟩ = some (.bool a1_1) := (blk_cell BK186.out 1).trans rfl; have hcz83_2 : w78.cell? ⟨gb186, 2, none⟩ = some (.int .i64 a1_2) := (blk_cell BK186.out 2).trans rfl; have hcz83_3 : w78.cell? ⟨gb186, 3, none⟩ = some (.int .u64 a1_3) := (blk_cell BK186.out 3).trans rfl; have hfz83_0 := blk_frozen BK186.out 0; have hfz83_1 := blk_frozen BK186.out 1; have hfz83_2 := blk_frozen BK186.out 2; have hfz83_3 := blk_frozen BK186.out 3))
                        go_ret2
                        exact ⟨by first | rfl | (simp [errW_none, errW_some] <;> rfl) | (simp only [← hji63, ← hji64, ← hji65, ← hji67]; first | rfl | (simp [errW_none, errW_some] <;> rfl)) | (simp [*, errW_none, errW_some] <;> rfl), by repeat (first | (with_reducible first | exact HB.out | apply pA | apply pN | apply p1 | refine pS ?_ GE186.out | refine pS ?_ GE193.out | refine pS ?_ GE196.out | refine pS ?_ GE204.out) | exact HB.out)⟩
                      · rw [if_neg c70] at H
                        have c70b0 : (!(t199 == a1_0) || (!(t200 == a1_1) || (!(t201 == a1_2) || (!(t202 == a1_3))))) = false := by simpa using c70
                        clear c70
                        simp only [Option.some.injEq, Prod.mk.injEq] at H
                        obtain ⟨rfl, rfl⟩ := H
                        have hnb84 := NB196_186.out
                        have hnc84 := NB186_196.out
                        have hnb85 := NB196_193.out
                        have hnc85 := NB193_196.out
                        have hcz86_0 : wc.cell? ⟨gb196, 0, none⟩ = some (.bool a1_1) := (blk_cell BK196.out 0).trans rfl
                        have hcz86_1 : wc.cell? ⟨gb196, 1, none⟩ = some (.bool (decide ((a1_2 / 4) ≥ 0))) := (blk_cell BK196.out 1).trans rfl
                        have hcz86_2 : wc.cell? ⟨gb196, 2, none⟩ = some (.int .i64 x197002_44) := (blk_cell BK196.out 2).trans rfl
                        have hcz86_3 : wc.cell? ⟨gb196, 3, none⟩ = some (.int .i64 (a1_2 / 4)) := (blk_cell BK196.out 3).trans rfl
                        have hcz86_4 : wc.cell? ⟨gb196, 4, none⟩ = some (.int .i64 0) := (blk_cell BK196.out 4).trans rfl
                        have hcz86_5 : wc.cell? ⟨gb196, 5, none⟩ = some (.int .i64 (Go.bits .and .i64 a1_2 3)) := (blk_cell BK196.out 5).trans rfl
                        have hcz86_6 : wc.cell? ⟨gb196, 6, none⟩ = some (.int .i64 0) := (blk_cell BK196.out 6).trans rfl
                        have hcz86_7 : wc.cell? ⟨gb196, 7, none⟩ = some (.int .u64 0) := (blk_cell BK196.out 7).trans rfl
                        have hfz86_0 := blk_frozen BK196.out 0
                        have hfz86_1 := blk_frozen BK196.out 1
                        have hfz86_2 := blk_frozen BK196.out 2
                        have hfz86_3 := blk_frozen BK196.out 3
                        have hfz86_4 := blk_frozen BK196.out 4
                        have hfz86_5 := blk_frozen BK196.out 5
                        have hfz86_6 := blk_frozen BK196.out 6
                        have hfz86_7 := blk_frozen BK196.out 7
                        have hnb87 := NB186_193.out
                        have hnc87 := NB193_186.out
                        have hcz88_0 : wc.cell? ⟨gb186, 0, none⟩ = some (.int .i64 a1_0) := (blk_cell BK186.out 0).trans rfl
                        have hcz88_1 : wc.cell? ⟨gb186, 1, none⟩ = some (.bool a1_1) := (blk_cell BK186.out 1).trans rfl
                        have hcz88_2 : wc.cell? ⟨gb186, 2, none⟩ = some (.int .i64 a1_2) := (blk_cell BK186.out 2).trans rfl
                        have hcz88_3 : wc.cell? ⟨gb186, 3, none⟩ = some (.int .u64 a1_3) := (blk_cell BK186.out 3).trans rfl
                        have hfz88_0 := blk_frozen BK186.out 0
                        have hfz88_1 := blk_frozen BK186.out 1
                        have hfz88_2 := blk_frozen BK186.out 2
                        have hfz88_3 := blk_frozen BK186.out 3
                        go_wp2_with (first | ((with_reducible refine gC (f := 14) rfl ?_); (with_reducible refine gD (N := 97) rfl ?_); refine goesL_ (some 97) rfl rfl Try.func14 (by kernel_rfl) rfl #[.int .i64 a0, .agg #[.bool a1_1, .bool (decide ((a1_2 / 4) ≥ 0)), .int .i64 x197002_44, .int .i64 (a1_2 / 4), .int .i64 ji64, .int .i64 (Go.bits .and .i64 a1_2 3), .int .i64 (wrap64 ((ji63) - (ji64))), .int .u64 ji67]] rfl (by (try simp only [List.map_toArray, List.map_cons, List.map_nil]); first | done | (simp only [hji63, hji64, hji67]; rfl) | rfl | (simp only [List.length_drop, List.length_take]; rfl)) ?_; (with_reducible refine (codec_Join.calls kj44 a0 a1_1 (decide ((a1_2 / 4) ≥ 0)) x197002_44 (a1_2 / 4) ji64 (Go.bits .and .i64 a1_2 3) (wrap64 ((ji63) - (ji64))) ji67 t197 none _ A68.out).mono ?_); rintro e w89 ⟨rfl, hb⟩; refine ⟨_, rfl, ?_⟩; have n0_ := Aside0.mk (bB (g := gb186) (o := .cells #[.int .i64 a1_0, .bool a1_1, .int .i64 a1_2, .int .u64 a1_3] 40 (0, 0)) (by (with_reducible repeat (first | refine bN ?_ _ | refine bD ?_ | refine bA ?_ _)); refine blk_far ?_ NB186_196.out _; (with_reducible repeat (first | refine bN ?_ _ | refine bD ?_ | refine bA ?_ _)); refine blk_far ?_ NB186_196.out _; (with_reducible repeat (first | refine bN ?_ _ | refine bD ?_ | refine bA ?_ _)); refine blk_far ?_ NB186_196.out _; (with_reducible repeat (first | refine bN ?_ _ | refine bD ?_ | refine bA ?_ _)); exact BK186.out) hb); have n1_ := Aside0.mk (bB (g := gb193) (o := .cells #[.int .i64 t187, .int .u64 t188, .int .u64 t189, .int .u64 t190, .int .i64 t191] 68 (0, 0)) (by (with_reducible repeat (first | refine bN ?_ _ | refine bD ?_ | refine bA ?_ _)); refine blk_far ?_ NB193_196.out _; (with_reducible repeat (first | refine bN ?_ _ | refine bD ?_ | refine bA ?_ _)); refine blk_far ?_ NB193_196.out _; (with_reducible repeat (first | refine bN ?_ _ | refine bD ?_ | refine bA ?_ _)); refine blk_far ?_ NB193_196.out _; (with_reducible repeat (first | refine bN ?_ _ | refine bD ?_ | refine bA ?_ _)); exact BK193.out) hb); have n2_ := Aside0.mk (bB (g := gb196) (o := .cells #[.bool a1_1, .bool (decide ((a1_2 / 4) ≥ 0)), .int .i64 x197002_44, .int .i64 (a1_2 / 4), .int .i64 ji64, .int .i64 (Go.bits .and .i64 a1_2 3), .int .i64 (wrap64 ((ji63) - (ji64))), .int .u64 ji67] 25 (0, 0)) (by (with_reducible repeat (first | refine bN ?_ _ | refine bD ?_ | refine bA ?_ _)); refine blk_put (cs := #[.bool a1_1, .bool (decide ((a1_2 / 4) ≥ 0)), .int .i64 x197002_44, .int .i64 (a1_2 / 4), .int .i64 ji64, .int .i64 (Go.bits .and .i64 a1_2 3), .int .i64 (wrap64 ((ji63) - (ji64))), .int .u64 0]) ?_ 7 _ rfl; (with_reducible repeat (first | refine bN ?_ _ | refine bD ?_ | refine bA ?_ _)); refine blk_put (cs := #[.bool a1_1, .bool (decide ((a1_2 / 4) ≥ 0)), .int .i64 x197002_44, .int .i64 (a1_2 / 4), .int .i64 ji64, .int .i64 (Go.bits .and .i64 a1_2 3), .int .i64 0, .int .u64 0]) ?_ 6 _ rfl; (with_reducible repeat (first | refine bN ?_ _ | refine bD ?_ | refine bA ?_ _)); refine blk_put (cs := #[.bool a1_1, .bool (decide ((a1_2 / 4) ≥ 0)), .int .i64 x197002_44, .int .i64 (a1_2 / 4), .int .i64 0, .int .i64 (Go.bits .and .i64 a1_2 3), .int .i64 0, .int .u64 0]) ?_ 4 _ rfl; (with_reducible repeat (first | refine bN ?_ _ | refine bD ?_ | refine bA ?_ _)); exact BK196.out) hb); have n3_ := Aside0.mk (bS3 HB.out hb); clear BK186; clear BK193; clear BK196; clear HB; have BK186 := n0_; have BK193 := n1_; have BK196 := n2_; have HB := n3_; clear n0_ n1_ n2_ n3_; (try clear hb); (try clear hb2); (try clear hk); (try clear hi); (try simp only [errW_none, errW_some])) | ((with_reducible refine gC (f := 16) rfl ?_); (with_reducible refine gD (N := 103) rfl ?_); refine goesY_ (some 103) Try.func16 #[.int .i64 a0, .int .u64 t197] ?_; (with_reducible refine (codec_Decode.calls kj44 a0 t197 t199 t200 t201 t202 t203 _ A69.out).mono ?_); rintro e w90 ⟨rfl, hb⟩; refine ⟨_, rfl, ?_⟩; have n0_ := Aside0.mk (bB3 BK186.out hb); have n1_ := Aside0.mk (bB3 BK193.out hb); have n2_ := Aside0.mk (bB (g := gb196) (o := .cells #[.bool a1_1, .bool (decide ((a1_2 / 4) ≥ 0)), .int .i64 x197002_44, .int .i64 (a1_2 / 4), .int .i64 ji64, .int .i64 (Go.bits .and .i64 a1_2 3), .int .i64 (wrap64 ((ji63) - (ji64))), .int .u64 ji67] 25 (0, 0)) (by (with_reducible repeat (first | refine bN ?_ _ | refine bD ?_ | refine bA ?_ _)); exact BK196.out) hb); have n3_ := Aside0.mk (bS3 HB.out hb); clear BK186; clear BK193; clear BK196; clear HB; have BK186 := n0_; have BK193 := n1_; have BK196 := n2_; have HB := n3_; clear n0_ n1_ n2_ n3_; (try clear hb); (try clear hb2); (try clear hk); (try clear hi); (try simp only [errW_none, errW_some])) | ((with_reducible refine gD (N := 12) rfl ?_); refine bE3 12 #[.int .i64 0, .bool false, .int .i64 0, .int .u64 0] 40 ?hr ?_; (case hr => first | (go_simp; done) | (go_simp; rfl)); intro gb204 hg w91 hbox hb; have n0_ := Aside0.mk (bB3 BK186.out hb); have n1_ := Aside0.mk (bB3 BK193.out hb); have n2_ := Aside0.mk (bB (g := gb196) (o := .cells #[.bool a1_1, .bool (decide ((a1_2 / 4) ≥ 0)), .int .i64 x197002_44, .int .i64 (a1_2 / 4), .int .i64 ji64, .int .i64 (Go.bits .and .i64 a1_2 3), .int .i64 (wrap64 ((ji63) - (ji64))), .int .u64 ji67] 25 (0, 0)) (by (with_reducible repeat (first | refine bN ?_ _ | refine bD ?_ | refine bA ?_ _)); exact BK196.out) hb); have n3_ := Aside0.mk (bS3 HB.out hb); have n4_ := Aside0.mk (hbox); have n5_ := Aside0.mk ((bZ3 hg HB.out)); have n6_ := Aside0.mk ((bZ3 hg HB.out)); have n7_ := Aside0.mk ((bL3 hg BK186.out)); have n8_ := Aside0.mk ((bG3 hg BK186.out)); have n9_ := Aside0.mk ((bL3 hg BK193.out)); have n10_ := Aside0.mk ((bG3 hg BK193.out)); have n11_ := Aside0.mk ((by rw [hg]; exact Nat.ne_of_lt (bL (g := gb196) (o := .cells #[.bool a1_1, .bool (decide ((a1_2 / 4) ≥ 0)), .int .i64 x197002_44, .int .i64 (a1_2 / 4), .int .i64 ji64, .int .i64 (Go.bits .and .i64 a1_2 3), .int .i64 (wrap64 ((ji63) - (ji64))), .int .u64 ji67] 25 (0, 0)) (by (with_reducible repeat (first | refine bN ?_ _ | refine bD ?_ | refine bA ?_ _)); exact BK196.out)) : gb196 ≠ gb204)); have n12_ := Aside0.mk ((by rw [hg]; exact Nat.ne_of_gt (bL (g := gb196) (o := .cells #[.bool a1_1, .bool (decide ((a1_2 / 4) ≥ 0)), .int .i64 x197002_44, .int .i64 (a1_2 / 4), .int .i64 ji64, .int .i64 (Go.bits .and .i64 a1_2 3), .int .i64 (wrap64 ((ji63) - (ji64))), .int .u64 ji67] 25 (0, 0)) (by (with_reducible repeat (first | refine bN ?_ _ | refine bD ?_ | refine bA ?_ _)); exact BK196.out)) : gb204 ≠ gb196)); clear BK186; clear BK193; clear BK196; clear HB; have BK186 := n0_; have BK193 := n1_; have BK196 := n2_; have HB := n3_; have BK204 := n4_; have GW204 := n5_; have GE204 := n6_; have NB186_204 := n7_; have NB204_186 := n8_; have NB193_204 := n9_; have NB204_193 := n10_; have NB196_204 := n11_; have NB204_196 := n12_; clear n0_ n1_ n2_ n3_ n4_ n5_ n6_ n7_ n8_ n9_ n10_ n11_ n12_; clear hb hbox hg; have hnb92 := NB204_186.out; have hnc92 := NB186_204.out; have hnb93 := NB204_193.out; have hnc93 := NB193_204.out; have hnb94 := NB204_196.out; have hnc94 := NB196_204.out; have hcz95_0 : w91.cell? ⟨gb204, 0, none⟩ = some (.int .i64 0) := (blk_cell BK204.out 0).trans rfl; have hcz95_1 : w91.cell? ⟨gb204, 1, none⟩ = some (.bool false) := (blk_cell BK204.out 1).trans rfl; have hcz95_2 : w91.cell? ⟨gb204, 2, none⟩ = some (.int .i64 0) := (blk_cell BK204.out 2).trans rfl; have hcz95_3 : w91.cell? ⟨gb204, 3, none⟩ = some (.int .u64 0) := (blk_cell BK204.out 3).trans rfl; have hfz95_0 := blk_frozen BK204.out 0; have hfz95_1 := blk_frozen BK204.out 1; have hfz95_2 := blk_frozen BK204.out 2; have hfz95_3 := blk_frozen BK204.out 3; have hcz96_0 : w91.cell? ⟨gb186, 0, none⟩ = some (.int .i64 a1_0) := (blk_cell BK186.out 0).trans rfl; have hcz96_1 : w91.cell? ⟨gb186, 1, none⟩ = some (.bool a1_1) := (blk_cell BK186.out 1).trans rfl; have hcz96_2 : w91.cell? ⟨gb186, 2, none⟩ = some (.int .i64 a1_2) := (blk_cell BK186.out 2).trans rfl; have hcz96_3 : w91.cell? ⟨gb186, 3, none⟩ = some (.int .u64 a1_3) := (blk_cell BK186.out 3).trans rfl; have hfz96_0 := blk_frozen BK186.out 0; have hfz96_1 := blk_frozen BK186.out 1; have hfz96_2 := blk_frozen BK186.out 2; have hfz96_3 := blk_frozen BK186.out 3))
                        go_ret2
                        exact ⟨by first | rfl | (simp [errW_none, errW_some] <;> rfl) | (simp only [← hji63, ← hji64, ← hji65, ← hji67]; first | rfl | (simp [errW_none, errW_some] <;> rfl)) | (simp [*, errW_none, errW_some] <;> rfl), by repeat (first | (with_reducible first | exact HB.out | apply pA | apply pN | apply p1 | refine pS ?_ GE186.out | refine pS ?_ GE193.out | refine pS ?_ GE196.out | refine pS ?_ GE204.out) | exact HB.out)⟩
                    · have H1 : (some (0, some 8)) = some (r1, r2) := by rw [if_neg (show ¬ (some q205).isNone = true by simp)] at H; exact H
                      clear H
                      have H := H1
                      clear H1
                      try simp only [errW_none, errW_some]
                      simp only [Option.some.injEq, Prod.mk.injEq] at H
                      obtain ⟨rfl, rfl⟩ := H
                      have hnb97 := NB196_186.out
                      have hnc97 := NB186_196.out
                      have hnb98 := NB196_193.out
                      have hnc98 := NB193_196.out
                      have hcz99_0 : wc.cell? ⟨gb196, 0, none⟩ = some (.bool a1_1) := (blk_cell BK196.out 0).trans rfl
                      have hcz99_1 : wc.cell? ⟨gb196, 1, none⟩ = some (.bool (decide ((a1_2 / 4) ≥ 0))) := (blk_cell BK196.out 1).trans rfl
                      have hcz99_2 : wc.cell? ⟨gb196, 2, none⟩ = some (.int .i64 x197002_44) := (blk_cell BK196.out 2).trans rfl
                      have hcz99_3 : wc.cell? ⟨gb196, 3, none⟩ = some (.int .i64 (a1_2 / 4)) := (blk_cell BK196.out 3).trans rfl
                      have hcz99_4 : wc.cell? ⟨gb196, 4, none⟩ = some (.int .i64 0) := (blk_cell BK196.out 4).trans rfl
                      have hcz99_5 : wc.cell? ⟨gb196, 5, none⟩ = some (.int .i64 (Go.bits .and .i64 a1_2 3)) := (blk_cell BK196.out 5).trans rfl
                      have hcz99_6 : wc.cell? ⟨gb196, 6, none⟩ = some (.int .i64 0) := (blk_cell BK196.out 6).trans rfl
                      have hcz99_7 : wc.cell? ⟨gb196, 7, none⟩ = some (.int .u64 0) := (blk_cell BK196.out 7).trans rfl
                      have hfz99_0 := blk_frozen BK196.out 0
                      have hfz99_1 := blk_frozen BK196.out 1
                      have hfz99_2 := blk_frozen BK196.out 2
                      have hfz99_3 := blk_frozen BK196.out 3
                      have hfz99_4 := blk_frozen BK196.out 4
                      have hfz99_5 := blk_frozen BK196.out 5
                      have hfz99_6 := blk_frozen BK196.out 6
                      have hfz99_7 := blk_frozen BK196.out 7
                      have hnb100 := NB186_193.out
                      have hnc100 := NB193_186.out
                      have hcz101_0 : wc.cell? ⟨gb186, 0, none⟩ = some (.int .i64 a1_0) := (blk_cell BK186.out 0).trans rfl
                      have hcz101_1 : wc.cell? ⟨gb186, 1, none⟩ = some (.bool a1_1) := (blk_cell BK186.out 1).trans rfl
                      have hcz101_2 : wc.cell? ⟨gb186, 2, none⟩ = some (.int .i64 a1_2) := (blk_cell BK186.out 2).trans rfl
                      have hcz101_3 : wc.cell? ⟨gb186, 3, none⟩ = some (.int .u64 a1_3) := (blk_cell BK186.out 3).trans rfl
                      have hfz101_0 := blk_frozen BK186.out 0
                      have hfz101_1 := blk_frozen BK186.out 1
                      have hfz101_2 := blk_frozen BK186.out 2
                      have hfz101_3 := blk_frozen BK186.out 3
                      go_wp2_with (first | ((with_reducible refine gC (f := 14) rfl ?_); (with_reducible refine gD (N := 97) rfl ?_); refine goesL_ (some 97) rfl rfl Try.func14 (by kernel_rfl) rfl #[.int .i64 a0, .agg #[.bool a1_1, .bool (decide ((a1_2 / 4) ≥ 0)), .int .i64 x197002_44, .int .i64 (a1_2 / 4), .int .i64 ji64, .int .i64 (Go.bits .and .i64 a1_2 3), .int .i64 (wrap64 ((ji63) - (ji64))), .int .u64 ji67]] rfl (by (try simp only [List.map_toArray, List.map_cons, List.map_nil]); first | done | (simp only [hji63, hji64, hji67]; rfl) | rfl | (simp only [List.length_drop, List.length_take]; rfl)) ?_; (with_reducible refine (codec_Join.calls kj44 a0 a1_1 (decide ((a1_2 / 4) ≥ 0)) x197002_44 (a1_2 / 4) ji64 (Go.bits .and .i64 a1_2 3) (wrap64 ((ji63) - (ji64))) ji67 t197 (some q205) _ A68.out).mono ?_); rintro e w102 ⟨rfl, hb⟩; refine ⟨_, rfl, ?_⟩; have n0_ := Aside0.mk (bB (g := gb186) (o := .cells #[.int .i64 a1_0, .bool a1_1, .int .i64 a1_2, .int .u64 a1_3] 40 (0, 0)) (by (with_reducible repeat (first | refine bN ?_ _ | refine bD ?_ | refine bA ?_ _)); refine blk_far ?_ NB186_196.out _; (with_reducible repeat (first | refine bN ?_ _ | refine bD ?_ | refine bA ?_ _)); refine blk_far ?_ NB186_196.out _; (with_reducible repeat (first | refine bN ?_ _ | refine bD ?_ | refine bA ?_ _)); refine blk_far ?_ NB186_196.out _; (with_reducible repeat (first | refine bN ?_ _ | refine bD ?_ | refine bA ?_ _)); exact BK186.out) hb); have n1_ := Aside0.mk (bB (g := gb193) (o := .cells #[.int .i64 t187, .int .u64 t188, .int .u64 t189, .int .u64 t190, .int .i64 t191] 68 (0, 0)) (by (with_reducible repeat (first | refine bN ?_ _ | refine bD ?_ | refine bA ?_ _)); refine blk_far ?_ NB193_196.out _; (with_reducible repeat (first | refine bN ?_ _ | refine bD ?_ | refine bA ?_ _)); refine blk_far ?_ NB193_196.out _; (with_reducible repeat (first | refine bN ?_ _ | refine bD ?_ | refine bA ?_ _)); refine blk_far ?_ NB193_196.out _; (with_reducible repeat (first | refine bN ?_ _ | refine bD ?_ | refine bA ?_ _)); exact BK193.out) hb); have n2_ := Aside0.mk (bB (g := gb196) (o := .cells #[.bool a1_1, .bool (decide ((a1_2 / 4) ≥ 0)), .int .i64 x197002_44, .int .i64 (a1_2 / 4), .int .i64 ji64, .int .i64 (Go.bits .and .i64 a1_2 3), .int .i64 (wrap64 ((ji63) - (ji64))), .int .u64 ji67] 25 (0, 0)) (by (with_reducible repeat (first | refine bN ?_ _ | refine bD ?_ | refine bA ?_ _)); refine blk_put (cs := #[.bool a1_1, .bool (decide ((a1_2 / 4) ≥ 0)), .int .i64 x197002_44, .int .i64 (a1_2 / 4), .int .i64 ji64, .int .i64 (Go.bits .and .i64 a1_2 3), .int .i64 (wrap64 ((ji63) - (ji64))), .int .u64 0]) ?_ 7 _ rfl; (with_reducible repeat (first | refine bN ?_ _ | refine bD ?_ | refine bA ?_ _)); refine blk_put (cs := #[.bool a1_1, .bool (decide ((a1_2 / 4) ≥ 0)), .int .i64 x197002_44, .int .i64 (a1_2 / 4), .int .i64 ji64, .int .i64 (Go.bits .and .i64 a1_2 3), .int .i64 0, .int .u64 0]) ?_ 6 _ rfl; (with_reducible repeat (first | refine bN ?_ _ | refine bD ?_ | refine bA ?_ _)); refine blk_put (cs := #[.bool a1_1, .bool (decide ((a1_2 / 4) ≥ 0)), .int .i64 x197002_44, .int .i64 (a1_2 / 4), .int .i64 0, .int .i64 (Go.bits .and .i64 a1_2 3), .int .i64 0, .int .u64 0]) ?_ 4 _ rfl; (with_reducible repeat (first | refine bN ?_ _ | refine bD ?_ | refine bA ?_ _)); exact BK196.out) hb); have n3_ := Aside0.mk (bS3 HB.out hb); clear BK186; clear BK193; clear BK196; clear HB; have BK186 := n0_; have BK193 := n1_; have BK196 := n2_; have HB := n3_; clear n0_ n1_ n2_ n3_; (try clear hb); (try clear hb2); (try clear hk); (try clear hi); (try simp only [errW_none, errW_some])) | ((with_reducible refine gC (f := 16) rfl ?_); (with_reducible refine gD (N := 103) rfl ?_); refine goesY_ (some 103) Try.func16 #[.int .i64 a0, .int .u64 t197] ?_; (with_reducible refine (codec_Decode.calls kj44 a0 t197 t199 t200 t201 t202 t203 _ A69.out).mono ?_); rintro e w103 ⟨rfl, hb⟩; refine ⟨_, rfl, ?_⟩; have n0_ := Aside0.mk (bB3 BK186.out hb); have n1_ := Aside0.mk (bB3 BK193.out hb); have n2_ := Aside0.mk (bB (g := gb196) (o := .cells #[.bool a1_1, .bool (decide ((a1_2 / 4) ≥ 0)), .int .i64 x197002_44, .int .i64 (a1_2 / 4), .int .i64 ji64, .int .i64 (Go.bits .and .i64 a1_2 3), .int .i64 (wrap64 ((ji63) - (ji64))), .int .u64 ji67] 25 (0, 0)) (by (with_reducible repeat (first | refine bN ?_ _ | refine bD ?_ | refine bA ?_ _)); exact BK196.out) hb); have n3_ := Aside0.mk (bS3 HB.out hb); clear BK186; clear BK193; clear BK196; clear HB; have BK186 := n0_; have BK193 := n1_; have BK196 := n2_; have HB := n3_; clear n0_ n1_ n2_ n3_; (try clear hb); (try clear hb2); (try clear hk); (try clear hi); (try simp only [errW_none, errW_some])) | ((with_reducible refine gD (N := 12) rfl ?_); refine bE3 12 #[.int .i64 0, .bool false, .int .i64 0, .int .u64 0] 40 ?hr ?_; (case hr => first | (go_simp; done) | (go_simp; rfl)); intro gb204 hg w104 hbox hb; have n0_ := Aside0.mk (bB3 BK186.out hb); have n1_ := Aside0.mk (bB3 BK193.out hb); have n2_ := Aside0.mk (bB (g := gb196) (o := .cells #[.bool a1_1, .bool (decide ((a1_2 / 4) ≥ 0)), .int .i64 x197002_44, .int .i64 (a1_2 / 4), .int .i64 ji64, .int .i64 (Go.bits .and .i64 a1_2 3), .int .i64 (wrap64 ((ji63) - (ji64))), .int .u64 ji67] 25 (0, 0)) (by (with_reducible repeat (first | refine bN ?_ _ | refine bD ?_ | refine bA ?_ _)); exact BK196.out) hb); have n3_ := Aside0.mk (bS3 HB.out hb); have n4_ := Aside0.mk (hbox); have n5_ := Aside0.mk ((bZ3 hg HB.out)); have n6_ := Aside0.mk ((bZ3 hg HB.out)); have n7_ := Aside0.mk ((bL3 hg BK186.out)); have n8_ := Aside0.mk ((bG3 hg BK186.out)); have n9_ := Aside0.mk ((bL3 hg BK193.out)); have n10_ := Aside0.mk ((bG3 hg BK193.out)); have n11_ := Aside0.mk ((by rw [hg]; exact Nat.ne_of_lt (bL (g := gb196) (o := .cells #[.bool a1_1, .bool (decide ((a1_2 / 4) ≥ 0)), .int .i64 x197002_44, .int .i64 (a1_2 / 4), .int .i64 ji64, .int .i64 (Go.bits .and .i64 a1_2 3), .int .i64 (wrap64 ((ji63) - (ji64))), .int .u64 ji67] 25 (0, 0)) (by (with_reducible repeat (first | refine bN ?_ _ | refine bD ?_ | refine bA ?_ _)); exact BK196.out)) : gb196 ≠ gb204)); have n12_ := Aside0.mk ((by rw [hg]; exact Nat.ne_of_gt (bL (g := gb196) (o := .cells #[.bool a1_1, .bool (decide ((a1_2 / 4) ≥ 0)), .int .i64 x197002_44, .int .i64 (a1_2 / 4), .int .i64 ji64, .int .i64 (Go.bits .and .i64 a1_2 3), .int .i64 (wrap64 ((ji63) - (ji64))), .int .u64 ji67] 25 (0, 0)) (by (with_reducible repeat (first | refine bN ?_ _ | refine bD ?_ | refine bA ?_ _)); exact BK196.out)) : gb204 ≠ gb196)); clear BK186; clear BK193; clear BK196; clear HB; have BK186 := n0_; have BK193 := n1_; have BK196 := n2_; have HB := n3_; have BK204 := n4_; have GW204 := n5_; have GE204 := n6_; have NB186_204 := n7_; have NB204_186 := n8_; have NB193_204 := n9_; have NB204_193 := n10_; have NB196_204 := n11_; have NB204_196 := n12_; clear n0_ n1_ n2_ n3_ n4_ n5_ n6_ n7_ n8_ n9_ n10_ n11_ n12_; clear hb hbox hg; have hnb105 := NB204_186.out; have hnc105 := NB186_204.out; have hnb106 := NB204_193.out; have hnc106 := NB193_204.out; have hnb107 := NB204_196.out; have hnc107 := NB196_204.out; have hcz108_0 : w104.cell? ⟨gb204, 0, none⟩ = some (.int .i64 0) := (blk_cell BK204.out 0).trans rfl; have hcz108_1 : w104.cell? ⟨gb204, 1, none⟩ = some (.bool false) := (blk_cell BK204.out 1).trans rfl; have hcz108_2 : w104.cell? ⟨gb204, 2, none⟩ = some (.int .i64 0) := (blk_cell BK204.out 2).trans rfl; have hcz108_3 : w104.cell? ⟨gb204, 3, none⟩ = some (.int .u64 0) := (blk_cell BK204.out 3).trans rfl; have hfz108_0 := blk_frozen BK204.out 0; have hfz108_1 := blk_frozen BK204.out 1; have hfz108_2 := blk_frozen BK204.out 2; have hfz108_3 := blk_frozen BK204.out 3))
                      go_ret2
                      exact ⟨by first | rfl | (simp [errW_none, errW_some] <;> rfl) | (simp only [← hji63, ← hji64, ← hji65, ← hji67]; first | rfl | (simp [errW_none, errW_some] <;> rfl)) | (simp [*, errW_none, errW_some] <;> rfl), by repeat (first | (with_reducible first | exact HB.out | apply pA | apply pN | apply p1 | refine pS ?_ GE186.out | refine pS ?_ GE193.out | refine pS ?_ GE196.out | refine pS ?_ GE204.out) | exact HB.out)⟩
                  · rw [if_neg c66] at H
                    exact absurd H (by simp)
    · replace c5 := Bool.eq_false_iff.mpr c5
      subst c5
      have H1 : (some (0, some 1)) = some (r1, r2) := by rw [if_neg (show ¬ (false = true) by decide)] at H; exact H
      clear H
      have H := H1
      clear H1
      simp only [Option.some.injEq, Prod.mk.injEq] at H
      obtain ⟨rfl, rfl⟩ := H
      go_enter Try.func18, Try.ntmps18
      go_wp2_with (first | ((with_reducible refine gD (N := 3) rfl ?_); refine bE3 3 #[.int .i64 a1_0, .bool a1_1, .int .i64 a1_2, .int .u64 a1_3] 40 ?hr ?_; (case hr => first | (go_simp; done) | (go_simp; rfl)); intro gb186 hg w109 hbox hb; have n0_ := Aside0.mk (bS3 HB.out hb); have n1_ := Aside0.mk (hbox); have n2_ := Aside0.mk ((bZ3 hg HB.out)); have n3_ := Aside0.mk ((bZ3 hg HB.out)); clear HB; have HB := n0_; have BK186 := n1_; have GW186 := n2_; have GE186 := n3_; clear n0_ n1_ n2_ n3_; clear hb hbox hg) | ((with_reducible refine gC (f := 32) rfl ?_); (with_reducible refine gD (N := 16) rfl ?_); refine goesY_ (some 16) Try.func32 #[.int .i64 a0] ?_; (with_reducible refine (shape_Of.calls a0 t187 t188 t189 t190 t191 none _ A3.out).mono ?_); rintro e w110 ⟨rfl, hb⟩; refine ⟨_, rfl, ?_⟩; have n0_ := Aside0.mk (bB3 BK186.out hb); have n1_ := Aside0.mk (bS3 HB.out hb); clear BK186; clear HB; have BK186 := n0_; have HB := n1_; clear n0_ n1_; (try clear hb); (try clear hb2); (try clear hk); (try clear hi); (try simp only [errW_none, errW_some])) | ((with_reducible refine gD (N := 6) rfl ?_); refine bE3 6 #[.int .i64 0, .int .u64 0, .int .u64 0, .int .u64 0, .int .i64 0] 68 ?hr ?_; (case hr => first | (go_simp; done) | (go_simp; rfl)); intro gb193 hg w111 hbox hb; have n0_ := Aside0.mk (bB3 BK186.out hb); have n1_ := Aside0.mk (bS3 HB.out hb); have n2_ := Aside0.mk (hbox); have n3_ := Aside0.mk ((bZ3 hg HB.out)); have n4_ := Aside0.mk ((bZ3 hg HB.out)); have n5_ := Aside0.mk ((bL3 hg BK186.out)); have n6_ := Aside0.mk ((bG3 hg BK186.out)); clear BK186; clear HB; have BK186 := n0_; have HB := n1_; have BK193 := n2_; have GW193 := n3_; have GE193 := n4_; have NB186_193 := n5_; have NB193_186 := n6_; clear n0_ n1_ n2_ n3_ n4_ n5_ n6_; clear hb hbox hg; have hnb112 := NB193_186.out; have hnc112 := NB186_193.out; have hcz113_0 : w111.cell? ⟨gb193, 0, none⟩ = some (.int .i64 0) := (blk_cell BK193.out 0).trans rfl; have hcz113_1 : w111.cell? ⟨gb193, 1, none⟩ = some (.int .u64 0) := (blk_cell BK193.out 1).trans rfl; have hcz113_2 : w111.cell? ⟨gb193, 2, none⟩ = some (.int .u64 0) := (blk_cell BK193.out 2).trans rfl; have hcz113_3 : w111.cell? ⟨gb193, 3, none⟩ = some (.int .u64 0) := (blk_cell BK193.out 3).trans rfl; have hcz113_4 : w111.cell? ⟨gb193, 4, none⟩ = some (.int .i64 0) := (blk_cell BK193.out 4).trans rfl; have hfz113_0 := blk_frozen BK193.out 0; have hfz113_1 := blk_frozen BK193.out 1; have hfz113_2 := blk_frozen BK193.out 2; have hfz113_3 := blk_frozen BK193.out 3; have hfz113_4 := blk_frozen BK193.out 4; have hcz114_0 : w111.cell? ⟨gb186, 0, none⟩ = some (.int .i64 a1_0) := (blk_cell BK186.out 0).trans rfl; have hcz114_1 : w111.cell? ⟨gb186, 1, none⟩ = some (.bool a1_1) := (blk_cell BK186.out 1).trans rfl; have hcz114_2 : w111.cell? ⟨gb186, 2, none⟩ = some (.int .i64 a1_2) := (blk_cell BK186.out 2).trans rfl; have hcz114_3 : w111.cell? ⟨gb186, 3, none⟩ = some (.int .u64 a1_3) := (blk_cell BK186.out 3).trans rfl; have hfz114_0 := blk_frozen BK186.out 0; have hfz114_1 := blk_frozen BK186.out 1; have hfz114_2 := blk_frozen BK186.out 2; have hfz114_3 := blk_frozen BK186.out 3) | ((with_reducible refine gC (f := 37) rfl ?_); (with_reducible refine gD (N := 25) rfl ?_); refine goesY_ (some 25) Try.func37 #[.agg #[.int .i64 a1_0, .bool a1_1, .int .i64 a1_2, .int .u64 a1_3]] ?_; (with_reducible refine (codec_sound.calls k a1_0 a1_1 a1_2 a1_3 false _ A4.out).mono ?_); rintro e w115 ⟨rfl, hb⟩; refine ⟨_, rfl, ?_⟩; have n0_ := Aside0.mk (bB (g := gb186) (o := .cells #[.int .i64 a1_0, .bool a1_1, .int .i64 a1_2, .int .u64 a1_3] 40 (0, 0)) (by (with_reducible repeat (first | refine bN ?_ _ | refine bD ?_ | refine bA ?_ _)); refine blk_far ?_ NB186_193.out _; (with_reducible repeat (first | refine bN ?_ _ | refine bD ?_ | refine bA ?_ _)); refine blk_far ?_ NB186_193.out _; (with_reducible repeat (first | refine bN ?_ _ | refine bD ?_ | refine bA ?_ _)); refine blk_far ?_ NB186_193.out _; (with_reducible repeat (first | refine bN ?_ _ | refine bD ?_ | refine bA ?_ _)); refine blk_far ?_ NB186_193.out _; (with_reducible repeat (first | refine bN ?_ _ | refine bD ?_ | refine bA ?_ _)); refine blk_far ?_ NB186_193.out _; (with_reducible repeat (first | refine bN ?_ _ | refine bD ?_ | refine bA ?_ _)); exact BK186.out) hb); have n1_ := Aside0.mk (bB (g := gb193) (o := .cells #[.int .i64 t187, .int .u64 t188, .int .u64 t189, .int .u64 t190, .int .i64 t191] 68 (0, 0)) (by (with_reducible repeat (first | refine bN ?_ _ | refine bD ?_ | refine bA ?_ _)); refine blk_put (cs := #[.int .i64 t187, .int .u64 t188, .int .u64 t189, .int .u64 t190, .int .i64 0]) ?_ 4 _ rfl; (with_reducible repeat (first | refine bN ?_ _ | refine bD ?_ | refine bA ?_ _)); refine blk_put (cs := #[.int .i64 t187, .int .u64 t188, .int .u64 t189, .int .u64 0, .int .i64 0]) ?_ 3 _ rfl; (with_reducible repeat (first | refine bN ?_ _ | refine bD ?_ | refine bA ?_ _)); refine blk_put (cs := #[.int .i64 t187, .int .u64 t188, .int .u64 0, .int .u64 0, .int .i64 0]) ?_ 2 _ rfl; (with_reducible repeat (first | refine bN ?_ _ | refine bD ?_ | refine bA ?_ _)); refine blk_put (cs := #[.int .i64 t187, .int .u64 0, .int .u64 0, .int .u64 0, .int .i64 0]) ?_ 1 _ rfl; (with_reducible repeat (first | refine bN ?_ _ | refine bD ?_ | refine bA ?_ _)); refine blk_put (cs := #[.int .i64 0, .int .u64 0, .int .u64 0, .int .u64 0, .int .i64 0]) ?_ 0 _ rfl; (with_reducible repeat (first | refine bN ?_ _ | refine bD ?_ | refine bA ?_ _)); exact BK193.out) hb); have n2_ := Aside0.mk (bS3 HB.out hb); clear BK186; clear BK193; clear HB; have BK186 := n0_; have BK193 := n1_; have HB := n2_; clear n0_ n1_ n2_; (try clear hb); (try clear hb2); (try clear hk); (try clear hi)))
      go_ret2
      exact ⟨by first | rfl | (simp [errW_none, errW_some] <;> rfl) | (simp [*, errW_none, errW_some] <;> rfl), by repeat (first | (with_reducible first | exact HB.out | apply pA | apply pN | apply p1 | refine pS ?_ GE186.out | refine pS ?_ GE193.out) | exact HB.out)⟩
  · have H1 : (some (0, some q194)) = some (r1, r2) := by rw [if_neg (show ¬ (some q194).isNone = true by simp)] at H; exact H
    clear H
    have H := H1
    clear H1
    try simp only [errW_none, errW_some]
    simp only [Option.some.injEq, Prod.mk.injEq] at H
    obtain ⟨rfl, rfl⟩ := H
    go_enter Try.func18, Try.ntmps18
    go_wp2_with (first | ((with_reducible refine gD (N := 3) rfl ?_); refine bE3 3 #[.int .i64 a1_0, .bool a1_1, .int .i64 a1_2, .int .u64 a1_3] 40 ?hr ?_; (case hr => first | (go_simp; done) | (go_simp; rfl)); intro gb186 hg w116 hbox hb; have n0_ := Aside0.mk (bS3 HB.out hb); have n1_ := Aside0.mk (hbox); have n2_ := Aside0.mk ((bZ3 hg HB.out)); have n3_ := Aside0.mk ((bZ3 hg HB.out)); clear HB; have HB := n0_; have BK186 := n1_; have GW186 := n2_; have GE186 := n3_; clear n0_ n1_ n2_ n3_; clear hb hbox hg) | ((with_reducible refine gC (f := 32) rfl ?_); (with_reducible refine gD (N := 16) rfl ?_); refine goesY_ (some 16) Try.func32 #[.int .i64 a0] ?_; (with_reducible refine (shape_Of.calls a0 t187 t188 t189 t190 t191 (some q194) _ A3.out).mono ?_); rintro e w117 ⟨rfl, hb⟩; refine ⟨_, rfl, ?_⟩; have n0_ := Aside0.mk (bB3 BK186.out hb); have n1_ := Aside0.mk (bS3 HB.out hb); clear BK186; clear HB; have BK186 := n0_; have HB := n1_; clear n0_ n1_; (try clear hb); (try clear hb2); (try clear hk); (try clear hi); (try simp only [errW_none, errW_some])) | ((with_reducible refine gD (N := 6) rfl ?_); refine bE3 6 #[.int .i64 0, .int .u64 0, .int .u64 0, .int .u64 0, .int .i64 0] 68 ?hr ?_; (case hr => first | (go_simp; done) | (go_simp; rfl)); intro gb193 hg w118 hbox hb; have n0_ := Aside0.mk (bB3 BK186.out hb); have n1_ := Aside0.mk (bS3 HB.out hb); have n2_ := Aside0.mk (hbox); have n3_ := Aside0.mk ((bZ3 hg HB.out)); have n4_ := Aside0.mk ((bZ3 hg HB.out)); have n5_ := Aside0.mk ((bL3 hg BK186.out)); have n6_ := Aside0.mk ((bG3 hg BK186.out)); clear BK186; clear HB; have BK186 := n0_; have HB := n1_; have BK193 := n2_; have GW193 := n3_; have GE193 := n4_; have NB186_193 := n5_; have NB193_186 := n6_; clear n0_ n1_ n2_ n3_ n4_ n5_ n6_; clear hb hbox hg; have hnb119 := NB193_186.out; have hnc119 := NB186_193.out; have hcz120_0 : w118.cell? ⟨gb193, 0, none⟩ = some (.int .i64 0) := (blk_cell BK193.out 0).trans rfl; have hcz120_1 : w118.cell? ⟨gb193, 1, none⟩ = some (.int .u64 0) := (blk_cell BK193.out 1).trans rfl; have hcz120_2 : w118.cell? ⟨gb193, 2, none⟩ = some (.int .u64 0) := (blk_cell BK193.out 2).trans rfl; have hcz120_3 : w118.cell? ⟨gb193, 3, none⟩ = some (.int .u64 0) := (blk_cell BK193.out 3).trans rfl; have hcz120_4 : w118.cell? ⟨gb193, 4, none⟩ = some (.int .i64 0) := (blk_cell BK193.out 4).trans rfl; have hfz120_0 := blk_frozen BK193.out 0; have hfz120_1 := blk_frozen BK193.out 1; have hfz120_2 := blk_frozen BK193.out 2; have hfz120_3 := blk_frozen BK193.out 3; have hfz120_4 := blk_frozen BK193.out 4))
    go_ret2
    exact ⟨by first | rfl | (simp [errW_none, errW_some] <;> rfl) | (simp [*, errW_none, errW_some] <;> rfl), by repeat (first | (with_reducible first | exact HB.out | apply pA | apply pN | apply p1 | refine pS ?_ GE186.out | refine pS ?_ GE193.out) | exact HB.out)⟩

end Go.Proofs.Ytmofdimkdkfdgaa.F
