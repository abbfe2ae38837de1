/- Functions of the given program as plain Lean functions, and for each a proof that the program's call comes to just these answers; no further conditions. (Written by a program of this repo out of the translation.) -/
import Derived.Test.YtmofdimkdkfdgaaF0
import Derived.Test.YtmofdimkdkfdgaaF1
import Derived.Test.YtmofdimkdkfdgaaF2
import Derived.Test.YtmofdimkdkfdgaaF3
import Derived.Test.YtmofdimkdkfdgaaF4
import Derived.Test.YtmofdimkdkfdgaaF6
namespace Go.Proofs.Ytmofdimkdkfdgaa.F
open Go.RowKit Go.Proofs.YtmofdimkdkfdgaaW.PrintWords Go.Proofs.YtmofdimkdkfdgaaW.PrintLast Go.Proofs.YtmofdimkdkfdgaaW.PrintMore
attribute [local go_sem high] xor_u64 xor_u32 eqErr27 neErr27 eqErrL27 neErrL27
attribute [local go_sem] max2_int min2_int max_two min_two max_three min_three max_four min_four   -- for this text's walks alone
set_option linter.unusedVariables false
set_option linter.unusedSimpArgs false

attribute [local go_sem high] eqA25 eqA40
/-! ### codec_Join: function 14 -/
mutual
def codec_Join.j0 : Nat → Int → Bool → Bool → Bool → Int → Int → Int → Int → Int → Int → Int → Int → Int → Int → Int → Option (Int × Option Int)
  | 0, _, _, _, _, _, _, _, _, _, _, _, _, _, _, _ => none
  | k + 1, x0, x59, x153000, x153001, x153002, x153003, x153004, x153005, x153006, x153007, x160000, x160001, x160002, x160003, x160004 => if x59 = true then (some (0, some 23)) else (if x153001 = true then ((lead_Put.f 0 (wrap64 ((wrap64 (x0 - 1)) - x153002)) x153002 x160001).bind fun bt161 => (codec_Join.j1 k x0 bt161.1 x153000 x153001 x153002 x153003 x153004 x153005 x153006 x153007 x160000 x160001 x160002 x160003 x160004)) else (if x153002 < (wrap64 (x0 - 1)) then (if 0 ≤ (wrap64 ((wrap64 (x0 - 2)) - x153002)) then (codec_Join.j1 k x0 (shl .u64 1 (wrap64 ((wrap64 (x0 - 2)) - x153002))) x153000 x153001 x153002 x153003 x153004 x153005 x153006 x153007 x160000 x160001 x160002 x160003 x160004) else (none)) else (codec_Join.j1 k x0 0 x153000 x153001 x153002 x153003 x153004 x153005 x153006 x153007 x160000 x160001 x160002 x160003 x160004)))
def codec_Join.j1 : Nat → Int → Int → Bool → Bool → Int → Int → Int → Int → Int → Int → Int → Int → Int → Int → Int → Option (Int × Option Int)
  | 0, _, _, _, _, _, _, _, _, _, _, _, _, _, _, _ => none
  | k + 1, x0, x8, x153000, x153001, x153002, x153003, x153004, x153005, x153006, x153007, x160000, x160001, x160002, x160003, x160004 => if 0 ≤ (wrap64 (2 - x153004)) then (if 0 ≤ x153006 then (if x153000 = true then ((shape_Fold.f x0 (IntKind.u64.wrap (-(Go.bits .or .u64 (Go.bits .or .u64 x8 (Go.bits .and .u64 (shl .u64 (shr .u64 (IntKind.u64.wrap (x153005)) (wrap64 (2 - x153004))) x153006) x160001)) (Go.bits .and .u64 x153007 x160001))))).bind fun bt163 => ((codec_Split.f k x0 bt163.1).bind fun bt165 => (if (!(bt165.1 == x153000) || (!(bt165.2.1 == x153001) || (!(bt165.2.2.1 == x153002) || (!(bt165.2.2.2.1 == x153003) || (!(bt165.2.2.2.2.1 == x153004) || (!(bt165.2.2.2.2.2.1 == x153005) || (!(bt165.2.2.2.2.2.2.1 == x153006) || (!(bt165.2.2.2.2.2.2.2.1 == x153007))))))))) = true then (some (0, some 23)) else (some (bt163.1, none))))) else ((codec_Split.f k x0 (Go.bits .or .u64 (Go.bits .or .u64 x8 (Go.bits .and .u64 (shl .u64 (shr .u64 (IntKind.u64.wrap (x153005)) (wrap64 (2 - x153004))) x153006) x160001)) (Go.bits .and .u64 x153007 x160001))).bind fun bt175 => (if (!(bt175.1 == x153000) || (!(bt175.2.1 == x153001) || (!(bt175.2.2.1 == x153002) || (!(bt175.2.2.2.1 == x153003) || (!(bt175.2.2.2.2.1 == x153004) || (!(bt175.2.2.2.2.2.1 == x153005) || (!(bt175.2.2.2.2.2.2.1 == x153006) || (!(bt175.2.2.2.2.2.2.2.1 == x153007))))))))) = true then (some (0, some 23)) else (some (Go.bits .or .u64 (Go.bits .or .u64 x8 (Go.bits .and .u64 (shl .u64 (shr .u64 (IntKind.u64.wrap (x153005)) (wrap64 (2 - x153004))) x153006) x160001)) (Go.bits .and .u64 x153007 x160001), none))))) else (none)) else (none)
end
def codec_Join.f (k : Nat) (a0 : Int) (a1_0 : Bool) (a1_1 : Bool) (a1_2 : Int) (a1_3 : Int) (a1_4 : Int) (a1_5 : Int) (a1_6 : Int) (a1_7 : Int) : Option (Int × Option Int) := (shape_Of.f a0).bind fun bt153 => (if bt153.2.2.2.2.2.isNone = true then (if a1_2 < 1 then (codec_Join.j0 k a0 true a1_0 a1_1 a1_2 a1_3 a1_4 a1_5 a1_6 a1_7 bt153.1 bt153.2.1 bt153.2.2.1 bt153.2.2.2.1 bt153.2.2.2.2.1) else (if a1_2 > (wrap64 (a0 - 1)) then (codec_Join.j0 k a0 true a1_0 a1_1 a1_2 a1_3 a1_4 a1_5 a1_6 a1_7 bt153.1 bt153.2.1 bt153.2.2.1 bt153.2.2.2.1 bt153.2.2.2.2.1) else (if a1_4 < 0 then (codec_Join.j0 k a0 true a1_0 a1_1 a1_2 a1_3 a1_4 a1_5 a1_6 a1_7 bt153.1 bt153.2.1 bt153.2.2.1 bt153.2.2.2.1 bt153.2.2.2.2.1) else (if a1_4 > 2 then (codec_Join.j0 k a0 true a1_0 a1_1 a1_2 a1_3 a1_4 a1_5 a1_6 a1_7 bt153.1 bt153.2.1 bt153.2.2.1 bt153.2.2.2.1 bt153.2.2.2.2.1) else (if a1_5 < 0 then (codec_Join.j0 k a0 true a1_0 a1_1 a1_2 a1_3 a1_4 a1_5 a1_6 a1_7 bt153.1 bt153.2.1 bt153.2.2.1 bt153.2.2.2.1 bt153.2.2.2.2.1) else (if a1_5 > 3 then (codec_Join.j0 k a0 true a1_0 a1_1 a1_2 a1_3 a1_4 a1_5 a1_6 a1_7 bt153.1 bt153.2.1 bt153.2.2.1 bt153.2.2.2.1 bt153.2.2.2.2.1) else (if a1_6 < 0 then (codec_Join.j0 k a0 true a1_0 a1_1 a1_2 a1_3 a1_4 a1_5 a1_6 a1_7 bt153.1 bt153.2.1 bt153.2.2.1 bt153.2.2.2.1 bt153.2.2.2.2.1) else (codec_Join.j0 k a0 (decide (a1_6 > a0)) a1_0 a1_1 a1_2 a1_3 a1_4 a1_5 a1_6 a1_7 bt153.1 bt153.2.1 bt153.2.2.1 bt153.2.2.2.1 bt153.2.2.2.2.1)))))))) else (some (0, some (bt153.2.2.2.2.2.getD 0))))
theorem codec_Join.mono_l : ∀ k, (∀ y0 y1 y2 y3 y4 y5 y6 y7 y8 y9 y10 y11 y12 y13 y14, LeO (codec_Join.j0 k y0 y1 y2 y3 y4 y5 y6 y7 y8 y9 y10 y11 y12 y13 y14) (codec_Join.j0 (k + 1) y0 y1 y2 y3 y4 y5 y6 y7 y8 y9 y10 y11 y12 y13 y14)) ∧ (∀ y0 y1 y2 y3 y4 y5 y6 y7 y8 y9 y10 y11 y12 y13 y14, LeO (codec_Join.j1 k y0 y1 y2 y3 y4 y5 y6 y7 y8 y9 y10 y11 y12 y13 y14) (codec_Join.j1 (k + 1) y0 y1 y2 y3 y4 y5 y6 y7 y8 y9 y10 y11 y12 y13 y14))
  | 0 => ⟨fun _ _ _ _ _ _ _ _ _ _ _ _ _ _ _ r h => by simp [codec_Join.j0] at h, fun _ _ _ _ _ _ _ _ _ _ _ _ _ _ _ r h => by simp [codec_Join.j1] at h⟩
  | k + 1 => by
    obtain ⟨ih0, ih1⟩ := codec_Join.mono_l k
    refine ⟨?_, ?_⟩
    · intro y0 y1 y2 y3 y4 y5 y6 y7 y8 y9 y10 y11 y12 y13 y14
      unfold codec_Join.j0
      repeat' first
      | (with_reducible exact ih0 _ _ _ _ _ _ _ _ _ _ _ _ _ _ _)
      | (with_reducible exact ih1 _ _ _ _ _ _ _ _ _ _ _ _ _ _ _)
      | (with_reducible exact codec_Split.mono _ _ _)
      | (with_reducible exact LeO.refl _)
      | (with_reducible exact LeO.none _)
      | (with_reducible refine LeO.ite ?_ ?_)
      | (with_reducible refine LeO.bind ?_ (fun _ => ?_))
      | exact ih0 _ _ _ _ _ _ _ _ _ _ _ _ _ _ _
      | exact ih1 _ _ _ _ _ _ _ _ _ _ _ _ _ _ _
      | exact codec_Split.mono _ _ _
      | exact LeO.none _
      | refine LeO.ite ?_ ?_
      | refine LeO.bind ?_ (fun _ => ?_)
    · intro y0 y1 y2 y3 y4 y5 y6 y7 y8 y9 y10 y11 y12 y13 y14
      unfold codec_Join.j1
      repeat' first
      | (with_reducible exact ih0 _ _ _ _ _ _ _ _ _ _ _ _ _ _ _)
      | (with_reducible exact ih1 _ _ _ _ _ _ _ _ _ _ _ _ _ _ _)
      | (with_reducible exact codec_Split.mono _ _ _)
      | (with_reducible exact LeO.refl _)
      | (with_reducible exact LeO.none _)
      | (with_reducible refine LeO.ite ?_ ?_)
      | (with_reducible refine LeO.bind ?_ (fun _ => ?_))
      | exact ih0 _ _ _ _ _ _ _ _ _ _ _ _ _ _ _
      | exact ih1 _ _ _ _ _ _ _ _ _ _ _ _ _ _ _
      | exact codec_Split.mono _ _ _
      | exact LeO.none _
      | refine LeO.ite ?_ ?_
      | refine LeO.bind ?_ (fun _ => ?_)
theorem codec_Join.mono : ∀ a0 a1 a2 a3 a4 a5 a6 a7 a8 k, LeO (codec_Join.f k a0 a1 a2 a3 a4 a5 a6 a7 a8) (codec_Join.f (k + 1) a0 a1 a2 a3 a4 a5 a6 a7 a8) := by
  intro a0 a1 a2 a3 a4 a5 a6 a7 a8 k
  obtain ⟨ih0, ih1⟩ := codec_Join.mono_l k
  unfold codec_Join.f
  repeat' first
      | (with_reducible exact ih0 _ _ _ _ _ _ _ _ _ _ _ _ _ _ _)
      | (with_reducible exact ih1 _ _ _ _ _ _ _ _ _ _ _ _ _ _ _)
      | (with_reducible exact codec_Split.mono _ _ _)
      | (with_reducible exact LeO.refl _)
      | (with_reducible exact LeO.none _)
      | (with_reducible refine LeO.ite ?_ ?_)
      | (with_reducible refine LeO.bind ?_ (fun _ => ?_))
      | exact ih0 _ _ _ _ _ _ _ _ _ _ _ _ _ _ _
      | exact ih1 _ _ _ _ _ _ _ _ _ _ _ _ _ _ _
      | exact codec_Split.mono _ _ _
      | exact LeO.none _
      | refine LeO.ite ?_ ?_
      | refine LeO.bind ?_ (fun _ => ?_)
set_option maxHeartbeats 8000000 in
set_option maxRecDepth 100000 in
theorem codec_Join.calls (k : Nat) (a0 : Int) (a1_0 : Bool) (a1_1 : Bool) (a1_2 : Int) (a1_3 : Int) (a1_4 : Int) (a1_5 : Int) (a1_6 : Int) (a1_7 : Int) (r1 : Int) (r2 : Option Int) (w : World) (h : codec_Join.f k a0 a1_0 a1_1 a1_2 a1_3 a1_4 a1_5 a1_6 a1_7 = some (r1, r2)) :
    Calls Try.prog 14 #[.int .i64 a0, .agg #[.bool a1_0, .bool a1_1, .int .i64 a1_2, .int .i64 a1_3, .int .i64 a1_4, .int .i64 a1_5, .int .i64 a1_6, .int .u64 a1_7]] w fun e w' => e = .returned (.tuple #[.int .u64 r1, errW r2]) ∧ Below w.heap.size w w' := by
  have hu25 := Try.underlying25
  have hu68 := Try.underlying68
  have hu27 := Try.underlying27
  have hu49 := Try.underlying49
  have HB := Aside0.mk (Below.refl w.heap.size w)
  have H : ((shape_Of.f a0).bind fun bt153 => (if bt153.2.2.2.2.2.isNone = true then (if a1_2 < 1 then (codec_Join.j0 k a0 true a1_0 a1_1 a1_2 a1_3 a1_4 a1_5 a1_6 a1_7 bt153.1 bt153.2.1 bt153.2.2.1 bt153.2.2.2.1 bt153.2.2.2.2.1) else (if a1_2 > (wrap64 (a0 - 1)) then (codec_Join.j0 k a0 true a1_0 a1_1 a1_2 a1_3 a1_4 a1_5 a1_6 a1_7 bt153.1 bt153.2.1 bt153.2.2.1 bt153.2.2.2.1 bt153.2.2.2.2.1) else (if a1_4 < 0 then (codec_Join.j0 k a0 true a1_0 a1_1 a1_2 a1_3 a1_4 a1_5 a1_6 a1_7 bt153.1 bt153.2.1 bt153.2.2.1 bt153.2.2.2.1 bt153.2.2.2.2.1) else (if a1_4 > 2 then (codec_Join.j0 k a0 true a1_0 a1_1 a1_2 a1_3 a1_4 a1_5 a1_6 a1_7 bt153.1 bt153.2.1 bt153.2.2.1 bt153.2.2.2.1 bt153.2.2.2.2.1) else (if a1_5 < 0 then (codec_Join.j0 k a0 true a1_0 a1_1 a1_2 a1_3 a1_4 a1_5 a1_6 a1_7 bt153.1 bt153.2.1 bt153.2.2.1 bt153.2.2.2.1 bt153.2.2.2.2.1) else (if a1_5 > 3 then (codec_Join.j0 k a0 true a1_0 a1_1 a1_2 a1_3 a1_4 a1_5 a1_6 a1_7 bt153.1 bt153.2.1 bt153.2.2.1 bt153.2.2.2.1 bt153.2.2.2.2.1) else (if a1_6 < 0 then (codec_Join.j0 k a0 true a1_0 a1_1 a1_2 a1_3 a1_4 a1_5 a1_6 a1_7 bt153.1 bt153.2.1 bt153.2.2.1 bt153.2.2.2.1 bt153.2.2.2.2.1) else (codec_Join.j0 k a0 (decide (a1_6 > a0)) a1_0 a1_1 a1_2 a1_3 a1_4 a1_5 a1_6 a1_7 bt153.1 bt153.2.1 bt153.2.2.1 bt153.2.2.2.1 bt153.2.2.2.2.1)))))))) else (some (0, some (bt153.2.2.2.2.2.getD 0))))) = some (r1, r2) := h
  clear h
  replace H := Option.bind_eq_some_iff.mp H
  obtain ⟨⟨t153, t154, t155, t156, t157, t158⟩, A30, H⟩ := H
  replace H : (if t158.isNone = true then (if a1_2 < 1 then (codec_Join.j0 k a0 true a1_0 a1_1 a1_2 a1_3 a1_4 a1_5 a1_6 a1_7 t153 t154 t155 t156 t157) else (if a1_2 > (wrap64 (a0 - 1)) then (codec_Join.j0 k a0 true a1_0 a1_1 a1_2 a1_3 a1_4 a1_5 a1_6 a1_7 t153 t154 t155 t156 t157) else (if a1_4 < 0 then (codec_Join.j0 k a0 true a1_0 a1_1 a1_2 a1_3 a1_4 a1_5 a1_6 a1_7 t153 t154 t155 t156 t157) else (if a1_4 > 2 then (codec_Join.j0 k a0 true a1_0 a1_1 a1_2 a1_3 a1_4 a1_5 a1_6 a1_7 t153 t154 t155 t156 t157) else (if a1_5 < 0 then (codec_Join.j0 k a0 true a1_0 a1_1 a1_2 a1_3 a1_4 a1_5 a1_6 a1_7 t153 t154 t155 t156 t157) else (if a1_5 > 3 then (codec_Join.j0 k a0 true a1_0 a1_1 a1_2 a1_3 a1_4 a1_5 a1_6 a1_7 t153 t154 t155 t156 t157) else (if a1_6 < 0 then (codec_Join.j0 k a0 true a1_0 a1_1 a1_2 a1_3 a1_4 a1_5 a1_6 a1_7 t153 t154 t155 t156 t157) else (codec_Join.j0 k a0 (decide (a1_6 > a0)) a1_0 a1_1 a1_2 a1_3 a1_4 a1_5 a1_6 a1_7 t153 t154 t155 t156 t157)))))))) else (some (0, some (t158.getD 0)))) = some (r1, r2) := H
  have A3 := Aside0.mk A30
  clear A30
  rcases t158 with _ | q160
  · have H1 : (if a1_2 < 1 then (codec_Join.j0 k a0 true a1_0 a1_1 a1_2 a1_3 a1_4 a1_5 a1_6 a1_7 t153 t154 t155 t156 t157) else (if a1_2 > (wrap64 (a0 - 1)) then (codec_Join.j0 k a0 true a1_0 a1_1 a1_2 a1_3 a1_4 a1_5 a1_6 a1_7 t153 t154 t155 t156 t157) else (if a1_4 < 0 then (codec_Join.j0 k a0 true a1_0 a1_1 a1_2 a1_3 a1_4 a1_5 a1_6 a1_7 t153 t154 t155 t156 t157) else (if a1_4 > 2 then (codec_Join.j0 k a0 true a1_0 a1_1 a1_2 a1_3 a1_4 a1_5 a1_6 a1_7 t153 t154 t155 t156 t157) else (if a1_5 < 0 then (codec_Join.j0 k a0 true a1_0 a1_1 a1_2 a1_3 a1_4 a1_5 a1_6 a1_7 t153 t154 t155 t156 t157) else (if a1_5 > 3 then (codec_Join.j0 k a0 true a1_0 a1_1 a1_2 a1_3 a1_4 a1_5 a1_6 a1_7 t153 t154 t155 t156 t157) else (if a1_6 < 0 then (codec_Join.j0 k a0 true a1_0 a1_1 a1_2 a1_3 a1_4 a1_5 a1_6 a1_7 t153 t154 t155 t156 t157) else (codec_Join.j0 k a0 (decide (a1_6 > a0)) a1_0 a1_1 a1_2 a1_3 a1_4 a1_5 a1_6 a1_7 t153 t154 t155 t156 t157)))))))) = some (r1, r2) := by rw [if_pos (show (none : Option Int).isNone = true by rfl)] at H; exact H
    clear H
    have H := H1
    clear H1
    try simp only [errW_none, errW_some]
    have HC4 := Aside0.mk H
    clear H
    go_enter Try.func14, Try.ntmps14
    go_upto_region 4 with (first | ((with_reducible refine gD (N := 3) rfl ?_); refine bE3 3 #[.bool a1_0, .bool a1_1, .int .i64 a1_2, .int .i64 a1_3, .int .i64 a1_4, .int .i64 a1_5, .int .i64 a1_6, .int .u64 a1_7] 25 ?hr ?_; (case hr => first | (go_simp; done) | (go_simp; rfl)); intro gb152 hg w5 hbox hb; have n0_ := Aside0.mk (bS3 HB.out hb); have n1_ := Aside0.mk (hbox); have n2_ := Aside0.mk ((bZ3 hg HB.out)); have n3_ := Aside0.mk ((bZ3 hg HB.out)); clear HB; have HB := n0_; have BK152 := n1_; have GW152 := n2_; have GE152 := n3_; clear n0_ n1_ n2_ n3_; clear hb hbox hg) | (go_at_call 32; (with_reducible refine (shape_Of.calls a0 t153 t154 t155 t156 t157 none _ A3.out).mono ?_); rintro e w6 ⟨rfl, hb⟩; have n0_ := Aside0.mk (bB3 BK152.out hb); have n1_ := Aside0.mk (bS3 HB.out hb); clear BK152; clear HB; have BK152 := n0_; have HB := n1_; clear n0_ n1_; (try clear hb); (try clear hb2); (try clear hk); (try clear hi); (try simp only [errW_none, errW_some])) | ((with_reducible refine gD (N := 6) rfl ?_); refine bE3 6 #[.int .i64 0, .int .u64 0, .int .u64 0, .int .u64 0, .int .i64 0] 68 ?hr ?_; (case hr => first | (go_simp; done) | (go_simp; rfl)); intro gb159 hg w7 hbox hb; have n0_ := Aside0.mk (bB3 BK152.out hb); have n1_ := Aside0.mk (bS3 HB.out hb); have n2_ := Aside0.mk (hbox); have n3_ := Aside0.mk ((bZ3 hg HB.out)); have n4_ := Aside0.mk ((bZ3 hg HB.out)); have n5_ := Aside0.mk ((bL3 hg BK152.out)); have n6_ := Aside0.mk ((bG3 hg BK152.out)); clear BK152; clear HB; have BK152 := n0_; have HB := n1_; have BK159 := n2_; have GW159 := n3_; have GE159 := n4_; have NB152_159 := n5_; have NB159_152 := n6_; clear n0_ n1_ n2_ n3_ n4_ n5_ n6_; clear hb hbox hg; have hnb8 := NB159_152.out; have hnc8 := NB152_159.out; have hcz9_0 : w7.cell? ⟨gb159, 0, none⟩ = some (.int .i64 0) := (blk_cell BK159.out 0).trans rfl; have hcz9_1 : w7.cell? ⟨gb159, 1, none⟩ = some (.int .u64 0) := (blk_cell BK159.out 1).trans rfl; have hcz9_2 : w7.cell? ⟨gb159, 2, none⟩ = some (.int .u64 0) := (blk_cell BK159.out 2).trans rfl; have hcz9_3 : w7.cell? ⟨gb159, 3, none⟩ = some (.int .u64 0) := (blk_cell BK159.out 3).trans rfl; have hcz9_4 : w7.cell? ⟨gb159, 4, none⟩ = some (.int .i64 0) := (blk_cell BK159.out 4).trans rfl; have hfz9_0 := blk_frozen BK159.out 0; have hfz9_1 := blk_frozen BK159.out 1; have hfz9_2 := blk_frozen BK159.out 2; have hfz9_3 := blk_frozen BK159.out 3; have hfz9_4 := blk_frozen BK159.out 4))
    repeat (go_quiet (first | ((with_reducible refine gD (N := 3) rfl ?_); refine bE3 3 #[.bool a1_0, .bool a1_1, .int .i64 a1_2, .int .i64 a1_3, .int .i64 a1_4, .int .i64 a1_5, .int .i64 a1_6, .int .u64 a1_7] 25 ?hr ?_; (case hr => first | (go_simp; done) | (go_simp; rfl)); intro gb152 hg w5 hbox hb; have n0_ := Aside0.mk (bS3 HB.out hb); have n1_ := Aside0.mk (hbox); have n2_ := Aside0.mk ((bZ3 hg HB.out)); have n3_ := Aside0.mk ((bZ3 hg HB.out)); clear HB; have HB := n0_; have BK152 := n1_; have GW152 := n2_; have GE152 := n3_; clear n0_ n1_ n2_ n3_; clear hb hbox hg) | (go_at_call 32; (with_reducible refine (shape_Of.calls a0 t153 t154 t155 t156 t157 none _ A3.out).mono ?_); rintro e w6 ⟨rfl, hb⟩; have n0_ := Aside0.mk (bB3 BK152.out hb); have n1_ := Aside0.mk (bS3 HB.out hb); clear BK152; clear HB; have BK152 := n0_; have HB := n1_; clear n0_ n1_; (try clear hb); (try clear hb2); (try clear hk); (try clear hi); (try simp only [errW_none, errW_some])) | ((with_reducible refine gD (N := 6) rfl ?_); refine bE3 6 #[.int .i64 0, .int .u64 0, .int .u64 0, .int .u64 0, .int .i64 0] 68 ?hr ?_; (case hr => first | (go_simp; done) | (go_simp; rfl)); intro gb159 hg w7 hbox hb; have n0_ := Aside0.mk (bB3 BK152.out hb); have n1_ := Aside0.mk (bS3 HB.out hb); have n2_ := Aside0.mk (hbox); have n3_ := Aside0.mk ((bZ3 hg HB.out)); have n4_ := Aside0.mk ((bZ3 hg HB.out)); have n5_ := Aside0.mk ((bL3 hg BK152.out)); have n6_ := Aside0.mk ((bG3 hg BK152.out)); clear BK152; clear HB; have BK152 := n0_; have HB := n1_; have BK159 := n2_; have GW159 := n3_; have GE159 := n4_; have NB152_159 := n5_; have NB159_152 := n6_; clear n0_ n1_ n2_ n3_ n4_ n5_ n6_; clear hb hbox hg; have hnb8 := NB159_152.out; have hnc8 := NB152_159.out; have hcz9_0 : w7.cell? ⟨gb159, 0, none⟩ = some (.int .i64 0) := (blk_cell BK159.out 0).trans rfl; have hcz9_1 : w7.cell? ⟨gb159, 1, none⟩ = some (.int .u64 0) := (blk_cell BK159.out 1).trans rfl; have hcz9_2 : w7.cell? ⟨gb159, 2, none⟩ = some (.int .u64 0) := (blk_cell BK159.out 2).trans rfl; have hcz9_3 : w7.cell? ⟨gb159, 3, none⟩ = some (.int .u64 0) := (blk_cell BK159.out 3).trans rfl; have hcz9_4 : w7.cell? ⟨gb159, 4, none⟩ = some (.int .i64 0) := (blk_cell BK159.out 4).trans rfl; have hfz9_0 := blk_frozen BK159.out 0; have hfz9_1 := blk_frozen BK159.out 1; have hfz9_2 := blk_frozen BK159.out 2; have hfz9_3 := blk_frozen BK159.out 3; have hfz9_4 := blk_frozen BK159.out 4)); go_upto_region 4 with (first | ((with_reducible refine gD (N := 3) rfl ?_); refine bE3 3 #[.bool a1_0, .bool a1_1, .int .i64 a1_2, .int .i64 a1_3, .int .i64 a1_4, .int .i64 a1_5, .int .i64 a1_6, .int .u64 a1_7] 25 ?hr ?_; (case hr => first | (go_simp; done) | (go_simp; rfl)); intro gb152 hg w5 hbox hb; have n0_ := Aside0.mk (bS3 HB.out hb); have n1_ := Aside0.mk (hbox); have n2_ := Aside0.mk ((bZ3 hg HB.out)); have n3_ := Aside0.mk ((bZ3 hg HB.out)); clear HB; have HB := n0_; have BK152 := n1_; have GW152 := n2_; have GE152 := n3_; clear n0_ n1_ n2_ n3_; clear hb hbox hg) | (go_at_call 32; (with_reducible refine (shape_Of.calls a0 t153 t154 t155 t156 t157 none _ A3.out).mono ?_); rintro e w6 ⟨rfl, hb⟩; have n0_ := Aside0.mk (bB3 BK152.out hb); have n1_ := Aside0.mk (bS3 HB.out hb); clear BK152; clear HB; have BK152 := n0_; have HB := n1_; clear n0_ n1_; (try clear hb); (try clear hb2); (try clear hk); (try clear hi); (try simp only [errW_none, errW_some])) | ((with_reducible refine gD (N := 6) rfl ?_); refine bE3 6 #[.int .i64 0, .int .u64 0, .int .u64 0, .int .u64 0, .int .i64 0] 68 ?hr ?_; (case hr => first | (go_simp; done) | (go_simp; rfl)); intro gb159 hg w7 hbox hb; have n0_ := Aside0.mk (bB3 BK152.out hb); have n1_ := Aside0.mk (bS3 HB.out hb); have n2_ := Aside0.mk (hbox); have n3_ := Aside0.mk ((bZ3 hg HB.out)); have n4_ := Aside0.mk ((bZ3 hg HB.out)); have n5_ := Aside0.mk ((bL3 hg BK152.out)); have n6_ := Aside0.mk ((bG3 hg BK152.out)); clear BK152; clear HB; have BK152 := n0_; have HB := n1_; have BK159 := n2_; have GW159 := n3_; have GE159 := n4_; have NB152_159 := n5_; have NB159_152 := n6_; clear n0_ n1_ n2_ n3_ n4_ n5_ n6_; clear hb hbox hg; have hnb8 := NB159_152.out; have hnc8 := NB152_159.out; have hcz9_0 : w7.cell? ⟨gb159, 0, none⟩ = some (.int .i64 0) := (blk_cell BK159.out 0).trans rfl; have hcz9_1 : w7.cell? ⟨gb159, 1, none⟩ = some (.int .u64 0) := (blk_cell BK159.out 1).trans rfl; have hcz9_2 : w7.cell? ⟨gb159, 2, none⟩ = some (.int .u64 0) := (blk_cell BK159.out 2).trans rfl; have hcz9_3 : w7.cell? ⟨gb159, 3, none⟩ = some (.int .u64 0) := (blk_cell BK159.out 3).trans rfl; have hcz9_4 : w7.cell? ⟨gb159, 4, none⟩ = some (.int .i64 0) := (blk_cell BK159.out 4).trans rfl; have hfz9_0 := blk_frozen BK159.out 0; have hfz9_1 := blk_frozen BK159.out 1; have hfz9_2 := blk_frozen BK159.out 2; have hfz9_3 := blk_frozen BK159.out 3; have hfz9_4 := blk_frozen BK159.out 4)))
    (try simp only [Act.put, List.setIfInBounds_toArray, List.set_cons_zero, List.set_cons_succ])
    go_cut [59] (fun v59 wc => ∃ (kq : Nat) (x59_3 : Bool), v59 = .bool x59_3 ∧ Aside0 (codec_Join.j0 kq a0 x59_3 a1_0 a1_1 a1_2 a1_3 a1_4 a1_5 a1_6 a1_7 t153 t154 t155 t156 t157 = some (r1, r2)) ∧ Aside0 (kq ≤ k) ∧ Aside0 (wc.heap[gb152]? = some (.cells #[.bool a1_0, .bool a1_1, .int .i64 a1_2, .int .i64 a1_3, .int .i64 a1_4, .int .i64 a1_5, .int .i64 a1_6, .int .u64 a1_7] 25 (0, 0))) ∧ Aside0 (wc.heap[gb159]? = some (.cells #[.int .i64 t153, .int .u64 t154, .int .u64 t155, .int .u64 t156, .int .i64 t157] 68 (0, 0))) ∧ Aside0 (Below w.heap.size w wc))
    case first =>
      have H := HC4.out
      clear HC4
      by_cases c10 : a1_2 < 1
      · rw [if_pos c10] at H
        have c10b0 : decide (a1_2 < 1) = true := decide_eq_true c10
        clear c10
        (first | rw [c10b0] | (simp only [i64_w, i32_w]; rw [c10b0]) | skip)
        have H' := Aside0.mk H
        clear H
        have hnb11 := NB152_159.out
        have hnc11 := NB159_152.out
        have hcz12_0 : w7.cell? ⟨gb152, 0, none⟩ = some (.bool a1_0) := (blk_cell BK152.out 0).trans rfl
        have hcz12_1 : w7.cell? ⟨gb152, 1, none⟩ = some (.bool a1_1) := (blk_cell BK152.out 1).trans rfl
        have hcz12_2 : w7.cell? ⟨gb152, 2, none⟩ = some (.int .i64 a1_2) := (blk_cell BK152.out 2).trans rfl
        have hcz12_3 : w7.cell? ⟨gb152, 3, none⟩ = some (.int .i64 a1_3) := (blk_cell BK152.out 3).trans rfl
        have hcz12_4 : w7.cell? ⟨gb152, 4, none⟩ = some (.int .i64 a1_4) := (blk_cell BK152.out 4).trans rfl
        have hcz12_5 : w7.cell? ⟨gb152, 5, none⟩ = some (.int .i64 a1_5) := (blk_cell BK152.out 5).trans rfl
        have hcz12_6 : w7.cell? ⟨gb152, 6, none⟩ = some (.int .i64 a1_6) := (blk_cell BK152.out 6).trans rfl
        have hcz12_7 : w7.cell? ⟨gb152, 7, none⟩ = some (.int .u64 a1_7) := (blk_cell BK152.out 7).trans rfl
        have hfz12_0 := blk_frozen BK152.out 0
        have hfz12_1 := blk_frozen BK152.out 1
        have hfz12_2 := blk_frozen BK152.out 2
        have hfz12_3 := blk_frozen BK152.out 3
        have hfz12_4 := blk_frozen BK152.out 4
        have hfz12_5 := blk_frozen BK152.out 5
        have hfz12_6 := blk_frozen BK152.out 6
        have hfz12_7 := blk_frozen BK152.out 7
        go_wp2
        repeat (go_quiet (fail); try go_wp2)
        go_meet
        case rel => exact ⟨_, (true), (by first | rfl | (simp; done) | (simp [*]; done)), H', ⟨by first | omega | exact Nat.le_refl _⟩, ⟨by (with_reducible repeat (first | refine bN ?_ _ | refine bD ?_ | refine bA ?_ _)); refine blk_far ?_ NB152_159.out _; (with_reducible repeat (first | refine bN ?_ _ | refine bD ?_ | refine bA ?_ _)); refine blk_far ?_ NB152_159.out _; (with_reducible repeat (first | refine bN ?_ _ | refine bD ?_ | refine bA ?_ _)); refine blk_far ?_ NB152_159.out _; (with_reducible repeat (first | refine bN ?_ _ | refine bD ?_ | refine bA ?_ _)); refine blk_far ?_ NB152_159.out _; (with_reducible repeat (first | refine bN ?_ _ | refine bD ?_ | refine bA ?_ _)); refine blk_far ?_ NB152_159.out _; (with_reducible repeat (first | refine bN ?_ _ | refine bD ?_ | refine bA ?_ _)); exact BK152.out⟩, ⟨by (with_reducible repeat (first | refine bN ?_ _ | refine bD ?_ | refine bA ?_ _)); refine blk_put (cs := #[.int .i64 t153, .int .u64 t154, .int .u64 t155, .int .u64 t156, .int .i64 0]) ?_ 4 _ rfl; (with_reducible repeat (first | refine bN ?_ _ | refine bD ?_ | refine bA ?_ _)); refine blk_put (cs := #[.int .i64 t153, .int .u64 t154, .int .u64 t155, .int .u64 0, .int .i64 0]) ?_ 3 _ rfl; (with_reducible repeat (first | refine bN ?_ _ | refine bD ?_ | refine bA ?_ _)); refine blk_put (cs := #[.int .i64 t153, .int .u64 t154, .int .u64 0, .int .u64 0, .int .i64 0]) ?_ 2 _ rfl; (with_reducible repeat (first | refine bN ?_ _ | refine bD ?_ | refine bA ?_ _)); refine blk_put (cs := #[.int .i64 t153, .int .u64 0, .int .u64 0, .int .u64 0, .int .i64 0]) ?_ 1 _ rfl; (with_reducible repeat (first | refine bN ?_ _ | refine bD ?_ | refine bA ?_ _)); refine blk_put (cs := #[.int .i64 0, .int .u64 0, .int .u64 0, .int .u64 0, .int .i64 0]) ?_ 0 _ rfl; (with_reducible repeat (first | refine bN ?_ _ | refine bD ?_ | refine bA ?_ _)); exact BK159.out⟩, ⟨by repeat (first | (with_reducible first | exact HB.out | apply pA | apply pN | apply p1 | refine pS ?_ GE152.out | refine pS ?_ GE159.out) | exact HB.out)⟩⟩
      · rw [if_neg c10] at H
        have c10b0 : decide (a1_2 < 1) = false := decide_eq_false c10
        clear c10
        (first | rw [c10b0] | (simp only [i64_w, i32_w]; rw [c10b0]) | skip)
        by_cases c13 : a1_2 > (wrap64 (a0 - 1))
        · rw [if_pos c13] at H
          have c13b0 : decide ((wrap64 (a0 - 1)) < a1_2) = true := decide_eq_true c13
          clear c13
          have H' := Aside0.mk H
          clear H
          have hnb14 := NB152_159.out
          have hnc14 := NB159_152.out
          have hcz15_0 : w7.cell? ⟨gb152, 0, none⟩ = some (.bool a1_0) := (blk_cell BK152.out 0).trans rfl
          have hcz15_1 : w7.cell? ⟨gb152, 1, none⟩ = some (.bool a1_1) := (blk_cell BK152.out 1).trans rfl
          have hcz15_2 : w7.cell? ⟨gb152, 2, none⟩ = some (.int .i64 a1_2) := (blk_cell BK152.out 2).trans rfl
          have hcz15_3 : w7.cell? ⟨gb152, 3, none⟩ = some (.int .i64 a1_3) := (blk_cell BK152.out 3).trans rfl
          have hcz15_4 : w7.cell? ⟨gb152, 4, none⟩ = some (.int .i64 a1_4) := (blk_cell BK152.out 4).trans rfl
          have hcz15_5 : w7.cell? ⟨gb152, 5, none⟩ = some (.int .i64 a1_5) := (blk_cell BK152.out 5).trans rfl
          have hcz15_6 : w7.cell? ⟨gb152, 6, none⟩ = some (.int .i64 a1_6) := (blk_cell BK152.out 6).trans rfl
          have hcz15_7 : w7.cell? ⟨gb152, 7, none⟩ = some (.int .u64 a1_7) := (blk_cell BK152.out 7).trans rfl
          have hfz15_0 := blk_frozen BK152.out 0
          have hfz15_1 := blk_frozen BK152.out 1
          have hfz15_2 := blk_frozen BK152.out 2
          have hfz15_3 := blk_frozen BK152.out 3
          have hfz15_4 := blk_frozen BK152.out 4
          have hfz15_5 := blk_frozen BK152.out 5
          have hfz15_6 := blk_frozen BK152.out 6
          have hfz15_7 := blk_frozen BK152.out 7
          go_wp2
          repeat (go_quiet (fail); try go_wp2)
          go_meet
          case rel => exact ⟨_, (true), (by first | rfl | (simp; done) | (simp [*]; done)), H', ⟨by first | omega | exact Nat.le_refl _⟩, ⟨by (with_reducible repeat (first | refine bN ?_ _ | refine bD ?_ | refine bA ?_ _)); refine blk_far ?_ NB152_159.out _; (with_reducible repeat (first | refine bN ?_ _ | refine bD ?_ | refine bA ?_ _)); refine blk_far ?_ NB152_159.out _; (with_reducible repeat (first | refine bN ?_ _ | refine bD ?_ | refine bA ?_ _)); refine blk_far ?_ NB152_159.out _; (with_reducible repeat (first | refine bN ?_ _ | refine bD ?_ | refine bA ?_ _)); refine blk_far ?_ NB152_159.out _; (with_reducible repeat (first | refine bN ?_ _ | refine bD ?_ | refine bA ?_ _)); refine blk_far ?_ NB152_159.out _; (with_reducible repeat (first | refine bN ?_ _ | refine bD ?_ | refine bA ?_ _)); exact BK152.out⟩, ⟨by (with_reducible repeat (first | refine bN ?_ _ | refine bD ?_ | refine bA ?_ _)); refine blk_put (cs := #[.int .i64 t153, .int .u64 t154, .int .u64 t155, .int .u64 t156, .int .i64 0]) ?_ 4 _ rfl; (with_reducible repeat (first | refine bN ?_ _ | refine bD ?_ | refine bA ?_ _)); refine blk_put (cs := #[.int .i64 t153, .int .u64 t154, .int .u64 t155, .int .u64 0, .int .i64 0]) ?_ 3 _ rfl; (with_reducible repeat (first | refine bN ?_ _ | refine bD ?_ | refine bA ?_ _)); refine blk_put (cs := #[.int .i64 t153, .int .u64 t154, .int .u64 0, .int .u64 0, .int .i64 0]) ?_ 2 _ rfl; (with_reducible repeat (first | refine bN ?_ _ | refine bD ?_ | refine bA ?_ _)); refine blk_put (cs := #[.int .i64 t153, .int .u64 0, .int .u64 0, .int .u64 0, .int .i64 0]) ?_ 1 _ rfl; (with_reducible repeat (first | refine bN ?_ _ | refine bD ?_ | refine bA ?_ _)); refine blk_put (cs := #[.int .i64 0, .int .u64 0, .int .u64 0, .int .u64 0, .int .i64 0]) ?_ 0 _ rfl; (with_reducible repeat (first | refine bN ?_ _ | refine bD ?_ | refine bA ?_ _)); exact BK159.out⟩, ⟨by repeat (first | (with_reducible first | exact HB.out | apply pA | apply pN | apply p1 | refine pS ?_ GE152.out | refine pS ?_ GE159.out) | exact HB.out)⟩⟩
        · rw [if_neg c13] at H
          have c13b0 : decide ((wrap64 (a0 - 1)) < a1_2) = false := decide_eq_false c13
          clear c13
          by_cases c16 : a1_4 < 0
          · rw [if_pos c16] at H
            have c16b0 : decide (a1_4 < 0) = true := decide_eq_true c16
            clear c16
            have H' := Aside0.mk H
            clear H
            have hnb17 := NB152_159.out
            have hnc17 := NB159_152.out
            have hcz18_0 : w7.cell? ⟨gb152, 0, none⟩ = some (.bool a1_0) := (blk_cell BK152.out 0).trans rfl
            have hcz18_1 : w7.cell? ⟨gb152, 1, none⟩ = some (.bool a1_1) := (blk_cell BK152.out 1).trans rfl
            have hcz18_2 : w7.cell? ⟨gb152, 2, none⟩ = some (.int .i64 a1_2) := (blk_cell BK152.out 2).trans rfl
            have hcz18_3 : w7.cell? ⟨gb152, 3, none⟩ = some (.int .i64 a1_3) := (blk_cell BK152.out 3).trans rfl
            have hcz18_4 : w7.cell? ⟨gb152, 4, none⟩ = some (.int .i64 a1_4) := (blk_cell BK152.out 4).trans rfl
            have hcz18_5 : w7.cell? ⟨gb152, 5, none⟩ = some (.int .i64 a1_5) := (blk_cell BK152.out 5).trans rfl
            have hcz18_6 : w7.cell? ⟨gb152, 6, none⟩ = some (.int .i64 a1_6) := (blk_cell BK152.out 6).trans rfl
            have hcz18_7 : w7.cell? ⟨gb152, 7, none⟩ = some (.int .u64 a1_7) := (blk_cell BK152.out 7).trans rfl
            have hfz18_0 := blk_frozen BK152.out 0
            have hfz18_1 := blk_frozen BK152.out 1
            have hfz18_2 := blk_frozen BK152.out 2
            have hfz18_3 := blk_frozen BK152.out 3
            have hfz18_4 := blk_frozen BK152.out 4
            have hfz18_5 := blk_frozen BK152.out 5
            have hfz18_6 := blk_frozen BK152.out 6
            have hfz18_7 := blk_frozen BK152.out 7
            go_wp2
            repeat (go_quiet (fail); try go_wp2)
            go_meet
            case rel => exact ⟨_, (true), (by first | rfl | (simp; done) | (simp [*]; done)), H', ⟨by first | omega | exact Nat.le_refl _⟩, ⟨by (with_reducible repeat (first | refine bN ?_ _ | refine bD ?_ | refine bA ?_ _)); refine blk_far ?_ NB152_159.out _; (with_reducible repeat (first | refine bN ?_ _ | refine bD ?_ | refine bA ?_ _)); refine blk_far ?_ NB152_159.out _; (with_reducible repeat (first | refine bN ?_ _ | refine bD ?_ | refine bA ?_ _)); refine blk_far ?_ NB152_159.out _; (with_reducible repeat (first | refine bN ?_ _ | refine bD ?_ | refine bA ?_ _)); refine blk_far ?_ NB152_159.out _; (with_reducible repeat (first | refine bN ?_ _ | refine bD ?_ | refine bA ?_ _)); refine blk_far ?_ NB152_159.out _; (with_reducible repeat (first | refine bN ?_ _ | refine bD ?_ | refine bA ?_ _)); exact BK152.out⟩, ⟨by (with_reducible repeat (first | refine bN ?_ _ | refine bD ?_ | refine bA ?_ _)); refine blk_put (cs := #[.int .i64 t153, .int .u64 t154, .int .u64 t155, .int .u64 t156, .int .i64 0]) ?_ 4 _ rfl; (with_reducible repeat (first | refine bN ?_ _ | refine bD ?_ | refine bA ?_ _)); refine blk_put (cs := #[.int .i64 t153, .int .u64 t154, .int .u64 t155, .int .u64 0, .int .i64 0]) ?_ 3 _ rfl; (with_reducible repeat (first | refine bN ?_ _ | refine bD ?_ | refine bA ?_ _)); refine blk_put (cs := #[.int .i64 t153, .int .u64 t154, .int .u64 0, .int .u64 0, .int .i64 0]) ?_ 2 _ rfl; (with_reducible repeat (first | refine bN ?_ _ | refine bD ?_ | refine bA ?_ _)); refine blk_put (cs := #[.int .i64 t153, .int .u64 0, .int .u64 0, .int .u64 0, .int .i64 0]) ?_ 1 _ rfl; (with_reducible repeat (first | refine bN ?_ _ | refine bD ?_ | refine bA ?_ _)); refine blk_put (cs := #[.int .i64 0, .int .u64 0, .int .u64 0, .int .u64 0, .int .i64 0]) ?_ 0 _ rfl; (with_reducible repeat (first | refine bN ?_ _ | refine bD ?_ | refine bA ?_ _)); exact BK159.out⟩, ⟨by repeat (first | (with_reducible first | exact HB.out | apply pA | apply pN | apply p1 | refine pS ?_ GE152.out | refine pS ?_ GE159.out) | exact HB.out)⟩⟩
          · rw [if_neg c16] at H
            have c16b0 : decide (a1_4 < 0) = false := decide_eq_false c16
            clear c16
            by_cases c19 : a1_4 > 2
            · rw [if_pos c19] at H
              have c19b0 : decide (2 < a1_4) = true := decide_eq_true c19
              clear c19
              have H' := Aside0.mk H
              clear H
              have hnb20 := NB152_159.out
              have hnc20 := NB159_152.out
              have hcz21_0 : w7.cell? ⟨gb152, 0, none⟩ = some (.bool a1_0) := (blk_cell BK152.out 0).trans rfl
              have hcz21_1 : w7.cell? ⟨gb152, 1, none⟩ = some (.bool a1_1) := (blk_cell BK152.out 1).trans rfl
              have hcz21_2 : w7.cell? ⟨gb152, 2, none⟩ = some (.int .i64 a1_2) := (blk_cell BK152.out 2).trans rfl
              have hcz21_3 : w7.cell? ⟨gb152, 3, none⟩ = some (.int .i64 a1_3) := (blk_cell BK152.out 3).trans rfl
              have hcz21_4 : w7.cell? ⟨gb152, 4, none⟩ = some (.int .i64 a1_4) := (blk_cell BK152.out 4).trans rfl
              have hcz21_5 : w7.cell? ⟨gb152, 5, none⟩ = some (.int .i64 a1_5) := (blk_cell BK152.out 5).trans rfl
              have hcz21_6 : w7.cell? ⟨gb152, 6, none⟩ = some (.int .i64 a1_6) := (blk_cell BK152.out 6).trans rfl
              have hcz21_7 : w7.cell? ⟨gb152, 7, none⟩ = some (.int .u64 a1_7) := (blk_cell BK152.out 7).trans rfl
              have hfz21_0 := blk_frozen BK152.out 0
              have hfz21_1 := blk_frozen BK152.out 1
              have hfz21_2 := blk_frozen BK152.out 2
              have hfz21_3 := blk_frozen BK152.out 3
              have hfz21_4 := blk_frozen BK152.out 4
              have hfz21_5 := blk_frozen BK152.out 5
              have hfz21_6 := blk_frozen BK152.out 6
              have hfz21_7 := blk_frozen BK152.out 7
              go_wp2
              repeat (go_quiet (fail); try go_wp2)
              go_meet
              case rel => exact ⟨_, (true), (by first | rfl | (simp; done) | (simp [*]; done)), H', ⟨by first | omega | exact Nat.le_refl _⟩, ⟨by (with_reducible repeat (first | refine bN ?_ _ | refine bD ?_ | refine bA ?_ _)); refine blk_far ?_ NB152_159.out _; (with_reducible repeat (first | refine bN ?_ _ | refine bD ?_ | refine bA ?_ _)); refine blk_far ?_ NB152_159.out _; (with_reducible repeat (first | refine bN ?_ _ | refine bD ?_ | refine bA ?_ _)); refine blk_far ?_ NB152_159.out _; (with_reducible repeat (first | refine bN ?_ _ | refine bD ?_ | refine bA ?_ _)); refine blk_far ?_ NB152_159.out _; (with_reducible repeat (first | refine bN ?_ _ | refine bD ?_ | refine bA ?_ _)); refine blk_far ?_ NB152_159.out _; (with_reducible repeat (first | refine bN ?_ _ | refine bD ?_ | refine bA ?_ _)); exact BK152.out⟩, ⟨by (with_reducible repeat (first | refine bN ?_ _ | refine bD ?_ | refine bA ?_ _)); refine blk_put (cs := #[.int .i64 t153, .int .u64 t154, .int .u64 t155, .int .u64 t156, .int .i64 0]) ?_ 4 _ rfl; (with_reducible repeat (first | refine bN ?_ _ | refine bD ?_ | refine bA ?_ _)); refine blk_put (cs := #[.int .i64 t153, .int .u64 t154, .int .u64 t155, .int .u64 0, .int .i64 0]) ?_ 3 _ rfl; (with_reducible repeat (first | refine bN ?_ _ | refine bD ?_ | refine bA ?_ _)); refine blk_put (cs := #[.int .i64 t153, .int .u64 t154, .int .u64 0, .int .u64 0, .int .i64 0]) ?_ 2 _ rfl; (with_reducible repeat (first | refine bN ?_ _ | refine bD ?_ | refine bA ?_ _)); refine blk_put (cs := #[.int .i64 t153, .int .u64 0, .int .u64 0, .int .u64 0, .int .i64 0]) ?_ 1 _ rfl; (with_reducible repeat (first | refine bN ?_ _ | refine bD ?_ | refine bA ?_ _)); refine blk_put (cs := #[.int .i64 0, .int .u64 0, .int .u64 0, .int .u64 0, .int .i64 0]) ?_ 0 _ rfl; (with_reducible repeat (first | refine bN ?_ _ | refine bD ?_ | refine bA ?_ _)); exact BK159.out⟩, ⟨by repeat (first | (with_reducible first | exact HB.out | apply pA | apply pN | apply p1 | refine pS ?_ GE152.out | refine pS ?_ GE159.out) | exact HB.out)⟩⟩
            · rw [if_neg c19] at H
              have c19b0 : decide (2 < a1_4) = false := decide_eq_false c19
              clear c19
              by_cases c22 : a1_5 < 0
              · rw [if_pos c22] at H
                have c22b0 : decide (a1_5 < 0) = true := decide_eq_true c22
                clear c22
                have H' := Aside0.mk H
                clear H
                have hnb23 := NB152_159.out
                have hnc23 := NB159_152.out
                have hcz24_0 : w7.cell? ⟨gb152, 0, none⟩ = some (.bool a1_0) := (blk_cell BK152.out 0).trans rfl
                have hcz24_1 : w7.cell? ⟨gb152, 1, none⟩ = some (.bool a1_1) := (blk_cell BK152.out 1).trans rfl
                have hcz24_2 : w7.cell? ⟨gb152, 2, none⟩ = some (.int .i64 a1_2) := (blk_cell BK152.out 2).trans rfl
                have hcz24_3 : w7.cell? ⟨gb152, 3, none⟩ = some (.int .i64 a1_3) := (blk_cell BK152.out 3).trans rfl
                have hcz24_4 : w7.cell? ⟨gb152, 4, none⟩ = some (.int .i64 a1_4) := (blk_cell BK152.out 4).trans rfl
                have hcz24_5 : w7.cell? ⟨gb152, 5, none⟩ = some (.int .i64 a1_5) := (blk_cell BK152.out 5).trans rfl
                have hcz24_6 : w7.cell? ⟨gb152, 6, none⟩ = some (.int .i64 a1_6) := (blk_cell BK152.out 6).trans rfl
                have hcz24_7 : w7.cell? ⟨gb152, 7, none⟩ = some (.int .u64 a1_7) := (blk_cell BK152.out 7).trans rfl
                have hfz24_0 := blk_frozen BK152.out 0
                have hfz24_1 := blk_frozen BK152.out 1
                have hfz24_2 := blk_frozen BK152.out 2
                have hfz24_3 := blk_frozen BK152.out 3
                have hfz24_4 := blk_frozen BK152.out 4
                have hfz24_5 := blk_frozen BK152.out 5
                have hfz24_6 := blk_frozen BK152.out 6
                have hfz24_7 := blk_frozen BK152.out 7
                go_wp2
                repeat (go_quiet (fail); try go_wp2)
                go_meet
                case rel => exact ⟨_, (true), (by first | rfl | (simp; done) | (simp [*]; done)), H', ⟨by first | omega | exact Nat.le_refl _⟩, ⟨by (with_reducible repeat (first | refine bN ?_ _ | refine bD ?_ | refine bA ?_ _)); refine blk_far ?_ NB152_159.out _; (with_reducible repeat (first | refine bN ?_ _ | refine bD ?_ | refine bA ?_ _)); refine blk_far ?_ NB152_159.out _; (with_reducible repeat (first | refine bN ?_ _ | refine bD ?_ | refine bA ?_ _)); refine blk_far ?_ NB152_159.out _; (with_reducible repeat (first | refine bN ?_ _ | refine bD ?_ | refine bA ?_ _)); refine blk_far ?_ NB152_159.out _; (with_reducible repeat (first | refine bN ?_ _ | refine bD ?_ | refine bA ?_ _)); refine blk_far ?_ NB152_159.out _; (with_reducible repeat (first | refine bN ?_ _ | refine bD ?_ | refine bA ?_ _)); exact BK152.out⟩, ⟨by (with_reducible repeat (first | refine bN ?_ _ | refine bD ?_ | refine bA ?_ _)); refine blk_put (cs := #[.int .i64 t153, .int .u64 t154, .int .u64 t155, .int .u64 t156, .int .i64 0]) ?_ 4 _ rfl; (with_reducible repeat (first | refine bN ?_ _ | refine bD ?_ | refine bA ?_ _)); refine blk_put (cs := #[.int .i64 t153, .int .u64 t154, .int .u64 t155, .int .u64 0, .int .i64 0]) ?_ 3 _ rfl; (with_reducible repeat (first | refine bN ?_ _ | refine bD ?_ | refine bA ?_ _)); refine blk_put (cs := #[.int .i64 t153, .int .u64 t154, .int .u64 0, .int .u64 0, .int .i64 0]) ?_ 2 _ rfl; (with_reducible repeat (first | refine bN ?_ _ | refine bD ?_ | refine bA ?_ _)); refine blk_put (cs := #[.int .i64 t153, .int .u64 0, .int .u64 0, .int .u64 0, .int .i64 0]) ?_ 1 _ rfl; (with_reducible repeat (first | refine bN ?_ _ | refine bD ?_ | refine bA ?_ _)); refine blk_put (cs := #[.int .i64 0, .int .u64 0, .int .u64 0, .int .u64 0, .int .i64 0]) ?_ 0 _ rfl; (with_reducible repeat (first | refine bN ?_ _ | refine bD ?_ | refine bA ?_ _)); exact BK159.out⟩, ⟨by repeat (first | (with_reducible first | exact HB.out | apply pA | apply pN | apply p1 | refine pS ?_ GE152.out | refine pS ?_ GE159.out) | exact HB.out)⟩⟩
              · rw [if_neg c22] at H
                have c22b0 : decide (a1_5 < 0) = false := decide_eq_false c22
                clear c22
                by_cases c25 : a1_5 > 3
                · rw [if_pos c25] at H
                  have c25b0 : decide (3 < a1_5) = true := decide_eq_true c25
                  clear c25
                  have H' := Aside0.mk H
                  clear H
                  have hnb26 := NB152_159.out
                  have hnc26 := NB159_152.out
                  have hcz27_0 : w7.cell? ⟨gb152, 0, none⟩ = some (.bool a1_0) := (blk_cell BK152.out 0).trans rfl
                  have hcz27_1 : w7.cell? ⟨gb152, 1, none⟩ = some (.bool a1_1) := (blk_cell BK152.out 1).trans rfl
                  have hcz27_2 : w7.cell? ⟨gb152, 2, none⟩ = some (.int .i64 a1_2) := (blk_cell BK152.out 2).trans rfl
                  have hcz27_3 : w7.cell? ⟨gb152, 3, none⟩ = some (.int .i64 a1_3) := (blk_cell BK152.out 3).trans rfl
                  have hcz27_4 : w7.cell? ⟨gb152, 4, none⟩ = some (.int .i64 a1_4) := (blk_cell BK152.out 4).trans rfl
                  have hcz27_5 : w7.cell? ⟨gb152, 5, none⟩ = some (.int .i64 a1_5) := (blk_cell BK152.out 5).trans rfl
                  have hcz27_6 : w7.cell? ⟨gb152, 6, none⟩ = some (.int .i64 a1_6) := (blk_cell BK152.out 6).trans rfl
                  have hcz27_7 : w7.cell? ⟨gb152, 7, none⟩ = some (.int .u64 a1_7) := (blk_cell BK152.out 7).trans rfl
                  have hfz27_0 := blk_frozen BK152.out 0
                  have hfz27_1 := blk_frozen BK152.out 1
                  have hfz27_2 := blk_frozen BK152.out 2
                  have hfz27_3 := blk_frozen BK152.out 3
                  have hfz27_4 := blk_frozen BK152.out 4
                  have hfz27_5 := blk_frozen BK152.out 5
                  have hfz27_6 := blk_frozen BK152.out 6
                  have hfz27_7 := blk_frozen BK152.out 7
                  go_wp2
                  repeat (go_quiet (fail); try go_wp2)
                  go_meet
                  case rel => exact ⟨_, (true), (by first | rfl | (simp; done) | (simp [*]; done)), H', ⟨by first | omega | exact Nat.le_refl _⟩, ⟨by (with_reducible repeat (first | refine bN ?_ _ | refine bD ?_ | refine bA ?_ _)); refine blk_far ?_ NB152_159.out _; (with_reducible repeat (first | refine bN ?_ _ | refine bD ?_ | refine bA ?_ _)); refine blk_far ?_ NB152_159.out _; (with_reducible repeat (first | refine bN ?_ _ | refine bD ?_ | refine bA ?_ _)); refine blk_far ?_ NB152_159.out _; (with_reducible repeat (first | refine bN ?_ _ | refine bD ?_ | refine bA ?_ _)); refine blk_far ?_ NB152_159.out _; (with_reducible repeat (first | refine bN ?_ _ | refine bD ?_ | refine bA ?_ _)); refine blk_far ?_ NB152_159.out _; (with_reducible repeat (first | refine bN ?_ _ | refine bD ?_ | refine bA ?_ _)); exact BK152.out⟩, ⟨by (with_reducible repeat (first | refine bN ?_ _ | refine bD ?_ | refine bA ?_ _)); refine blk_put (cs := #[.int .i64 t153, .int .u64 t154, .int .u64 t155, .int .u64 t156, .int .i64 0]) ?_ 4 _ rfl; (with_reducible repeat (first | refine bN ?_ _ | refine bD ?_ | refine bA ?_ _)); refine blk_put (cs := #[.int .i64 t153, .int .u64 t154, .int .u64 t155, .int .u64 0, .int .i64 0]) ?_ 3 _ rfl; (with_reducible repeat (first | refine bN ?_ _ | refine bD ?_ | refine bA ?_ _)); refine blk_put (cs := #[.int .i64 t153, .int .u64 t154, .int .u64 0, .int .u64 0, .int .i64 0]) ?_ 2 _ rfl; (with_reducible repeat (first | refine bN ?_ _ | refine bD ?_ | refine bA ?_ _)); refine blk_put (cs := #[.int .i64 t153, .int .u64 0, .int .u64 0, .int .u64 0, .int .i64 0]) ?_ 1 _ rfl; (with_reducible repeat (first | refine bN ?_ _ | refine bD ?_ | refine bA ?_ _)); refine blk_put (cs := #[.int .i64 0, .int .u64 0, .int .u64 0, .int .u64 0, .int .i64 0]) ?_ 0 _ rfl; (with_reducible repeat (first | refine bN ?_ _ | refine bD ?_ | refine bA ?_ _)); exact BK159.out⟩, ⟨by repeat (first | (with_reducible first | exact HB.out | apply pA | apply pN | apply p1 | refine pS ?_ GE152.out | refine pS ?_ GE159.out) | exact HB.out)⟩⟩
                · rw [if_neg c25] at H
                  have c25b0 : decide (3 < a1_5) = false := decide_eq_false c25
                  clear c25
                  by_cases c28 : a1_6 < 0
                  · rw [if_pos c28] at H
                    have c28b0 : decide (a1_6 < 0) = true := decide_eq_true c28
                    clear c28
                    have H' := Aside0.mk H
                    clear H
                    have hnb29 := NB152_159.out
                    have hnc29 := NB159_152.out
                    have hcz30_0 : w7.cell? ⟨gb152, 0, none⟩ = some (.bool a1_0) := (blk_cell BK152.out 0).trans rfl
                    have hcz30_1 : w7.cell? ⟨gb152, 1, none⟩ = some (.bool a1_1) := (blk_cell BK152.out 1).trans rfl
                    have hcz30_2 : w7.cell? ⟨gb152, 2, none⟩ = some (.int .i64 a1_2) := (blk_cell BK152.out 2).trans rfl
                    have hcz30_3 : w7.cell? ⟨gb152, 3, none⟩ = some (.int .i64 a1_3) := (blk_cell BK152.out 3).trans rfl
                    have hcz30_4 : w7.cell? ⟨gb152, 4, none⟩ = some (.int .i64 a1_4) := (blk_cell BK152.out 4).trans rfl
                    have hcz30_5 : w7.cell? ⟨gb152, 5, none⟩ = some (.int .i64 a1_5) := (blk_cell BK152.out 5).trans rfl
                    have hcz30_6 : w7.cell? ⟨gb152, 6, none⟩ = some (.int .i64 a1_6) := (blk_cell BK152.out 6).trans rfl
                    have hcz30_7 : w7.cell? ⟨gb152, 7, none⟩ = some (.int .u64 a1_7) := (blk_cell BK152.out 7).trans rfl
                    have hfz30_0 := blk_frozen BK152.out 0
                    have hfz30_1 := blk_frozen BK152.out 1
                    have hfz30_2 := blk_frozen BK152.out 2
                    have hfz30_3 := blk_frozen BK152.out 3
                    have hfz30_4 := blk_frozen BK152.out 4
                    have hfz30_5 := blk_frozen BK152.out 5
                    have hfz30_6 := blk_frozen BK152.out 6
                    have hfz30_7 := blk_frozen BK152.out 7
                    go_wp2
                    repeat (go_quiet (fail); try go_wp2)
                    go_meet
                    case rel => exact ⟨_, (true), (by first | rfl | (simp; done) | (simp [*]; done)), H', ⟨by first | omega | exact Nat.le_refl _⟩, ⟨by (with_reducible repeat (first | refine bN ?_ _ | refine bD ?_ | refine bA ?_ _)); refine blk_far ?_ NB152_159.out _; (with_reducible repeat (first | refine bN ?_ _ | refine bD ?_ | refine bA ?_ _)); refine blk_far ?_ NB152_159.out _; (with_reducible repeat (first | refine bN ?_ _ | refine bD ?_ | refine bA ?_ _)); refine blk_far ?_ NB152_159.out _; (with_reducible repeat (first | refine bN ?_ _ | refine bD ?_ | refine bA ?_ _)); refine blk_far ?_ NB152_159.out _; (with_reducible repeat (first | refine bN ?_ _ | refine bD ?_ | refine bA ?_ _)); refine blk_far ?_ NB152_159.out _; (with_reducible repeat (first | refine bN ?_ _ | refine bD ?_ | refine bA ?_ _)); exact BK152.out⟩, ⟨by (with_reducible repeat (first | refine bN ?_ _ | refine bD ?_ | refine bA ?_ _)); refine blk_put (cs := #[.int .i64 t153, .int .u64 t154, .int .u64 t155, .int .u64 t156, .int .i64 0]) ?_ 4 _ rfl; (with_reducible repeat (first | refine bN ?_ _ | refine bD ?_ | refine bA ?_ _)); refine blk_put (cs := #[.int .i64 t153, .int .u64 t154, .int .u64 t155, .int .u64 0, .int .i64 0]) ?_ 3 _ rfl; (with_reducible repeat (first | refine bN ?_ _ | refine bD ?_ | refine bA ?_ _)); refine blk_put (cs := #[.int .i64 t153, .int .u64 t154, .int .u64 0, .int .u64 0, .int .i64 0]) ?_ 2 _ rfl; (with_reducible repeat (first | refine bN ?_ _ | refine bD ?_ | refine bA ?_ _)); refine blk_put (cs := #[.int .i64 t153, .int .u64 0, .int .u64 0, .int .u64 0, .int .i64 0]) ?_ 1 _ rfl; (with_reducible repeat (first | refine bN ?_ _ | refine bD ?_ | refine bA ?_ _)); refine blk_put (cs := #[.int .i64 0, .int .u64 0, .int .u64 0, .int .u64 0, .int .i64 0]) ?_ 0 _ rfl; (with_reducible repeat (first | refine bN ?_ _ | refine bD ?_ | refine bA ?_ _)); exact BK159.out⟩, ⟨by repeat (first | (with_reducible first | exact HB.out | apply pA | apply pN | apply p1 | refine pS ?_ GE152.out | refine pS ?_ GE159.out) | exact HB.out)⟩⟩
                  · rw [if_neg c28] at H
                    have c28b0 : decide (a1_6 < 0) = false := decide_eq_false c28
                    clear c28
                    have H' := Aside0.mk H
                    clear H
                    have hnb31 := NB152_159.out
                    have hnc31 := NB159_152.out
                    have hcz32_0 : w7.cell? ⟨gb152, 0, none⟩ = some (.bool a1_0) := (blk_cell BK152.out 0).trans rfl
                    have hcz32_1 : w7.cell? ⟨gb152, 1, none⟩ = some (.bool a1_1) := (blk_cell BK152.out 1).trans rfl
                    have hcz32_2 : w7.cell? ⟨gb152, 2, none⟩ = some (.int .i64 a1_2) := (blk_cell BK152.out 2).trans rfl
                    have hcz32_3 : w7.cell? ⟨gb152, 3, none⟩ = some (.int .i64 a1_3) := (blk_cell BK152.out 3).trans rfl
                    have hcz32_4 : w7.cell? ⟨gb152, 4, none⟩ = some (.int .i64 a1_4) := (blk_cell BK152.out 4).trans rfl
                    have hcz32_5 : w7.cell? ⟨gb152, 5, none⟩ = some (.int .i64 a1_5) := (blk_cell BK152.out 5).trans rfl
                    have hcz32_6 : w7.cell? ⟨gb152, 6, none⟩ = some (.int .i64 a1_6) := (blk_cell BK152.out 6).trans rfl
                    have hcz32_7 : w7.cell? ⟨gb152, 7, none⟩ = some (.int .u64 a1_7) := (blk_cell BK152.out 7).trans rfl
                    have hfz32_0 := blk_frozen BK152.out 0
                    have hfz32_1 := blk_frozen BK152.out 1
                    have hfz32_2 := blk_frozen BK152.out 2
                    have hfz32_3 := blk_frozen BK152.out 3
                    have hfz32_4 := blk_frozen BK152.out 4
                    have hfz32_5 := blk_frozen BK152.out 5
                    have hfz32_6 := blk_frozen BK152.out 6
                    have hfz32_7 := blk_frozen BK152.out 7
                    go_wp2
                    repeat (go_quiet (fail); try go_wp2)
                    go_meet
                    case rel => exact ⟨_, (decide (a1_6 > a0)), (by first | rfl | (simp; done) | (simp [*]; done)), H', ⟨by first | omega | exact Nat.le_refl _⟩, ⟨by (with_reducible repeat (first | refine bN ?_ _ | refine bD ?_ | refine bA ?_ _)); refine blk_far ?_ NB152_159.out _; (with_reducible repeat (first | refine bN ?_ _ | refine bD ?_ | refine bA ?_ _)); refine blk_far ?_ NB152_159.out _; (with_reducible repeat (first | refine bN ?_ _ | refine bD ?_ | refine bA ?_ _)); refine blk_far ?_ NB152_159.out _; (with_reducible repeat (first | refine bN ?_ _ | refine bD ?_ | refine bA ?_ _)); refine blk_far ?_ NB152_159.out _; (with_reducible repeat (first | refine bN ?_ _ | refine bD ?_ | refine bA ?_ _)); refine blk_far ?_ NB152_159.out _; (with_reducible repeat (first | refine bN ?_ _ | refine bD ?_ | refine bA ?_ _)); exact BK152.out⟩, ⟨by (with_reducible repeat (first | refine bN ?_ _ | refine bD ?_ | refine bA ?_ _)); refine blk_put (cs := #[.int .i64 t153, .int .u64 t154, .int .u64 t155, .int .u64 t156, .int .i64 0]) ?_ 4 _ rfl; (with_reducible repeat (first | refine bN ?_ _ | refine bD ?_ | refine bA ?_ _)); refine blk_put (cs := #[.int .i64 t153, .int .u64 t154, .int .u64 t155, .int .u64 0, .int .i64 0]) ?_ 3 _ rfl; (with_reducible repeat (first | refine bN ?_ _ | refine bD ?_ | refine bA ?_ _)); refine blk_put (cs := #[.int .i64 t153, .int .u64 t154, .int .u64 0, .int .u64 0, .int .i64 0]) ?_ 2 _ rfl; (with_reducible repeat (first | refine bN ?_ _ | refine bD ?_ | refine bA ?_ _)); refine blk_put (cs := #[.int .i64 t153, .int .u64 0, .int .u64 0, .int .u64 0, .int .i64 0]) ?_ 1 _ rfl; (with_reducible repeat (first | refine bN ?_ _ | refine bD ?_ | refine bA ?_ _)); refine blk_put (cs := #[.int .i64 0, .int .u64 0, .int .u64 0, .int .u64 0, .int .i64 0]) ?_ 0 _ rfl; (with_reducible repeat (first | refine bN ?_ _ | refine bD ?_ | refine bA ?_ _)); exact BK159.out⟩, ⟨by repeat (first | (with_reducible first | exact HB.out | apply pA | apply pN | apply p1 | refine pS ?_ GE152.out | refine pS ?_ GE159.out) | exact HB.out)⟩⟩
    case rest =>
      clear HC4
      try clear c1
      try clear q1
      try clear c2
      try clear p2
      try clear c3
      try clear p6
      try clear c8
      try clear c10
      try clear c10b0
      try clear c11
      try clear c13
      try clear c13b0
      try clear c14
      try clear c16
      try clear c16b0
      try clear q16
      try clear c17
      try clear c19
      try clear c19b0
      try clear c20
      try clear c22
      try clear c22b0
      try clear c23
      try clear c25
      try clear c25b0
      try clear c26
      try clear c28
      try clear c28b0
      try clear c29
      try clear c31
      try clear hcz12_0
      try clear hcz12_1
      try clear hcz12_2
      try clear hcz12_3
      try clear hcz12_4
      try clear hcz12_5
      try clear hcz12_6
      try clear hcz12_7
      try clear hcz15_0
      try clear hcz15_1
      try clear hcz15_2
      try clear hcz15_3
      try clear hcz15_4
      try clear hcz15_5
      try clear hcz15_6
      try clear hcz15_7
      try clear hcz18_0
      try clear hcz18_1
      try clear hcz18_2
      try clear hcz18_3
      try clear hcz18_4
      try clear hcz18_5
      try clear hcz18_6
      try clear hcz18_7
      try clear hcz21_0
      try clear hcz21_1
      try clear hcz21_2
      try clear hcz21_3
      try clear hcz21_4
      try clear hcz21_5
      try clear hcz21_6
      try clear hcz21_7
      try clear hcz24_0
      try clear hcz24_1
      try clear hcz24_2
      try clear hcz24_3
      try clear hcz24_4
      try clear hcz24_5
      try clear hcz24_6
      try clear hcz24_7
      try clear hcz27_0
      try clear hcz27_1
      try clear hcz27_2
      try clear hcz27_3
      try clear hcz27_4
      try clear hcz27_5
      try clear hcz27_6
      try clear hcz27_7
      try clear hcz30_0
      try clear hcz30_1
      try clear hcz30_2
      try clear hcz30_3
      try clear hcz30_4
      try clear hcz30_5
      try clear hcz30_6
      try clear hcz30_7
      try clear hcz32_0
      try clear hcz32_1
      try clear hcz32_2
      try clear hcz32_3
      try clear hcz32_4
      try clear hcz32_5
      try clear hcz32_6
      try clear hcz32_7
      try clear hcz9_0
      try clear hcz9_1
      try clear hcz9_2
      try clear hcz9_3
      try clear hcz9_4
      try clear hfz12_0
      try clear hfz12_1
      try clear hfz12_2
      try clear hfz12_3
      try clear hfz12_4
      try clear hfz12_5
      try clear hfz12_6
      try clear hfz12_7
      try clear hfz15_0
      try clear hfz15_1
      try clear hfz15_2
      try clear hfz15_3
      try clear hfz15_4
      try clear hfz15_5
      try clear hfz15_6
      try clear hfz15_7
      try clear hfz18_0
      try clear hfz18_1
      try clear hfz18_2
      try clear hfz18_3
      try clear hfz18_4
      try clear hfz18_5
      try clear hfz18_6
      try clear hfz18_7
      try clear hfz21_0
      try clear hfz21_1
      try clear hfz21_2
      try clear hfz21_3
      try clear hfz21_4
      try clear hfz21_5
      try clear hfz21_6
      try clear hfz21_7
      try clear hfz24_0
      try clear hfz24_1
      try clear hfz24_2
      try clear hfz24_3
      try clear hfz24_4
      try clear hfz24_5
      try clear hfz24_6
      try clear hfz24_7
      try clear hfz27_0
      try clear hfz27_1
      try clear hfz27_2
      try clear hfz27_3
      try clear hfz27_4
      try clear hfz27_5
      try clear hfz27_6
      try clear hfz27_7
      try clear hfz30_0
      try clear hfz30_1
      try clear hfz30_2
      try clear hfz30_3
      try clear hfz30_4
      try clear hfz30_5
      try clear hfz30_6
      try clear hfz30_7
      try clear hfz32_0
      try clear hfz32_1
      try clear hfz32_2
      try clear hfz32_3
      try clear hfz32_4
      try clear hfz32_5
      try clear hfz32_6
      try clear hfz32_7
      try clear hfz9_0
      try clear hfz9_1
      try clear hfz9_2
      try clear hfz9_3
      try clear hfz9_4
      try clear q160
      obtain ⟨kq, x59_3, rfl, HA, HJ3, BK152, BK159, HB⟩ := hcut
      cases kq with
      | zero => exact absurd HA.out (by simp [codec_Join.j0])
      | succ kj3 =>
        have H := HA.out
        clear HA
        simp only [codec_Join.j0] at H
        by_cases c33 : x59_3 = true
        · subst c33
          have H1 : (some (0, some 23)) = some (r1, r2) := by rw [if_pos rfl] at H; exact H
          clear H
          have H := H1
          clear H1
          simp only [Option.some.injEq, Prod.mk.injEq] at H
          obtain ⟨rfl, rfl⟩ := H
          go_wp2
          repeat (go_quiet (fail); try go_wp2)
          go_ret2
          exact ⟨by first | rfl | (simp [errW_none, errW_some] <;> rfl) | (simp [*, errW_none, errW_some] <;> rfl), by repeat (first | (with_reducible first | exact HB.out | apply pA | apply pN | apply p1 | refine pS ?_ GE152.out | refine pS ?_ GE159.out) | exact HB.out)⟩
        · replace c33 := Bool.eq_false_iff.mpr c33
          subst c33
          have H1 : (if a1_1 = true then ((lead_Put.f 0 (wrap64 ((wrap64 (a0 - 1)) - a1_2)) a1_2 t154).bind fun bt161 => (codec_Join.j1 kj3 a0 bt161.1 a1_0 a1_1 a1_2 a1_3 a1_4 a1_5 a1_6 a1_7 t153 t154 t155 t156 t157)) else (if a1_2 < (wrap64 (a0 - 1)) then (if 0 ≤ (wrap64 ((wrap64 (a0 - 2)) - a1_2)) then (codec_Join.j1 kj3 a0 (shl .u64 1 (wrap64 ((wrap64 (a0 - 2)) - a1_2))) a1_0 a1_1 a1_2 a1_3 a1_4 a1_5 a1_6 a1_7 t153 t154 t155 t156 t157) else (none)) else (codec_Join.j1 kj3 a0 0 a1_0 a1_1 a1_2 a1_3 a1_4 a1_5 a1_6 a1_7 t153 t154 t155 t156 t157))) = some (r1, r2) := by rw [if_neg (show ¬ (false = true) by decide)] at H; exact H
          clear H
          have H := H1
          clear H1
          have HC34 := Aside0.mk H
          clear H
          have hnb35 := NB152_159.out
          have hnc35 := NB159_152.out
          have hcz36_0 : wc.cell? ⟨gb152, 0, none⟩ = some (.bool a1_0) := (blk_cell BK152.out 0).trans rfl
          have hcz36_1 : wc.cell? ⟨gb152, 1, none⟩ = some (.bool a1_1) := (blk_cell BK152.out 1).trans rfl
          have hcz36_2 : wc.cell? ⟨gb152, 2, none⟩ = some (.int .i64 a1_2) := (blk_cell BK152.out 2).trans rfl
          have hcz36_3 : wc.cell? ⟨gb152, 3, none⟩ = some (.int .i64 a1_3) := (blk_cell BK152.out 3).trans rfl
          have hcz36_4 : wc.cell? ⟨gb152, 4, none⟩ = some (.int .i64 a1_4) := (blk_cell BK152.out 4).trans rfl
          have hcz36_5 : wc.cell? ⟨gb152, 5, none⟩ = some (.int .i64 a1_5) := (blk_cell BK152.out 5).trans rfl
          have hcz36_6 : wc.cell? ⟨gb152, 6, none⟩ = some (.int .i64 a1_6) := (blk_cell BK152.out 6).trans rfl
          have hcz36_7 : wc.cell? ⟨gb152, 7, none⟩ = some (.int .u64 a1_7) := (blk_cell BK152.out 7).trans rfl
          have hfz36_0 := blk_frozen BK152.out 0
          have hfz36_1 := blk_frozen BK152.out 1
          have hfz36_2 := blk_frozen BK152.out 2
          have hfz36_3 := blk_frozen BK152.out 3
          have hfz36_4 := blk_frozen BK152.out 4
          have hfz36_5 := blk_frozen BK152.out 5
          have hfz36_6 := blk_frozen BK152.out 6
          have hfz36_7 := blk_frozen BK152.out 7
          go_upto_if 62 with (fail)
          repeat (go_quiet (fail); go_upto_if 62 with (fail))
          go_cut [8] (fun v8 wc => ∃ (kq : Nat) (x8_33 : Int), v8 = .int .u64 x8_33 ∧ Aside0 (codec_Join.j1 kq a0 x8_33 a1_0 a1_1 a1_2 a1_3 a1_4 a1_5 a1_6 a1_7 t153 t154 t155 t156 t157 = some (r1, r2)) ∧ Aside0 (kq ≤ kj3) ∧ Aside0 (wc.heap[gb152]? = some (.cells #[.bool a1_0, .bool a1_1, .int .i64 a1_2, .int .i64 a1_3, .int .i64 a1_4, .int .i64 a1_5, .int .i64 a1_6, .int .u64 a1_7] 25 (0, 0))) ∧ Aside0 (wc.heap[gb159]? = some (.cells #[.int .i64 t153, .int .u64 t154, .int .u64 t155, .int .u64 t156, .int .i64 t157] 68 (0, 0))) ∧ Aside0 (Below w.heap.size w wc))
          case first =>
            have H := HC34.out
            clear HC34
            by_cases c37 : a1_1 = true
            · subst c37
              have H1 : ((lead_Put.f 0 (wrap64 ((wrap64 (a0 - 1)) - a1_2)) a1_2 t154).bind fun bt161 => (codec_Join.j1 kj3 a0 bt161.1 a1_0 true a1_2 a1_3 a1_4 a1_5 a1_6 a1_7 t153 t154 t155 t156 t157)) = some (r1, r2) := by rw [if_pos rfl] at H; exact H
              clear H
              have H := H1
              clear H1
              replace H := Option.bind_eq_some_iff.mp H
              obtain ⟨⟨t161, t162⟩, A380, H⟩ := H
              replace H : (codec_Join.j1 kj3 a0 t161 a1_0 true a1_2 a1_3 a1_4 a1_5 a1_6 a1_7 t153 t154 t155 t156 t157) = some (r1, r2) := H
              have A38 := Aside0.mk A380
              clear A380
              have H' := Aside0.mk H
              clear H
              have hnb39 := NB152_159.out
              have hnc39 := NB159_152.out
              have hcz40_0 : wc.cell? ⟨gb152, 0, none⟩ = some (.bool a1_0) := (blk_cell BK152.out 0).trans rfl
              have hcz40_1 : wc.cell? ⟨gb152, 1, none⟩ = some (.bool true) := (blk_cell BK152.out 1).trans rfl
              have hcz40_2 : wc.cell? ⟨gb152, 2, none⟩ = some (.int .i64 a1_2) := (blk_cell BK152.out 2).trans rfl
              have hcz40_3 : wc.cell? ⟨gb152, 3, none⟩ = some (.int .i64 a1_3) := (blk_cell BK152.out 3).trans rfl
              have hcz40_4 : wc.cell? ⟨gb152, 4, none⟩ = some (.int .i64 a1_4) := (blk_cell BK152.out 4).trans rfl
              have hcz40_5 : wc.cell? ⟨gb152, 5, none⟩ = some (.int .i64 a1_5) := (blk_cell BK152.out 5).trans rfl
              have hcz40_6 : wc.cell? ⟨gb152, 6, none⟩ = some (.int .i64 a1_6) := (blk_cell BK152.out 6).trans rfl
              have hcz40_7 : wc.cell? ⟨gb152, 7, none⟩ = some (.int .u64 a1_7) := (blk_cell BK152.out 7).trans rfl
              have hfz40_0 := blk_frozen BK152.out 0
              have hfz40_1 := blk_frozen BK152.out 1
              have hfz40_2 := blk_frozen BK152.out 2
              have hfz40_3 := blk_frozen BK152.out 3
              have hfz40_4 := blk_frozen BK152.out 4
              have hfz40_5 := blk_frozen BK152.out 5
              have hfz40_6 := blk_frozen BK152.out 6
              have hfz40_7 := blk_frozen BK152.out 7
              have hcz41_0 : wc.cell? ⟨gb159, 0, none⟩ = some (.int .i64 t153) := (blk_cell BK159.out 0).trans rfl
              have hcz41_1 : wc.cell? ⟨gb159, 1, none⟩ = some (.int .u64 t154) := (blk_cell BK159.out 1).trans rfl
              have hcz41_2 : wc.cell? ⟨gb159, 2, none⟩ = some (.int .u64 t155) := (blk_cell BK159.out 2).trans rfl
              have hcz41_3 : wc.cell? ⟨gb159, 3, none⟩ = some (.int .u64 t156) := (blk_cell BK159.out 3).trans rfl
              have hcz41_4 : wc.cell? ⟨gb159, 4, none⟩ = some (.int .i64 t157) := (blk_cell BK159.out 4).trans rfl
              have hfz41_0 := blk_frozen BK159.out 0
              have hfz41_1 := blk_frozen BK159.out 1
              have hfz41_2 := blk_frozen BK159.out 2
              have hfz41_3 := blk_frozen BK159.out 3
              have hfz41_4 := blk_frozen BK159.out 4
              go_wp2_with (first | (go_at_call 33; (with_reducible refine (lead_Put.calls 0 (wrap64 ((wrap64 (a0 - 1)) - a1_2)) a1_2 t154 t161 t162 _ A38.out).mono ?_); rintro e w' ⟨rfl, ⟨nd, rfl⟩⟩; (try simp only [errW_none, errW_some]); (try first | exact ⟨rfl, _, World.drewN_drewN _ _ _⟩ | exact ⟨rfl, _, Eq.trans (World.drewN_drewN _ _ _) (congrArg (World.drewN _) (Nat.add_assoc _ _ _))⟩)))
              repeat (go_quiet (first | (go_at_call 33; (with_reducible refine (lead_Put.calls 0 (wrap64 ((wrap64 (a0 - 1)) - a1_2)) a1_2 t154 t161 t162 _ A38.out).mono ?_); rintro e w' ⟨rfl, ⟨nd, rfl⟩⟩; (try simp only [errW_none, errW_some]); (try first | exact ⟨rfl, _, World.drewN_drewN _ _ _⟩ | exact ⟨rfl, _, Eq.trans (World.drewN_drewN _ _ _) (congrArg (World.drewN _) (Nat.add_assoc _ _ _))⟩))); try go_wp2_with (first | (go_at_call 33; (with_reducible refine (lead_Put.calls 0 (wrap64 ((wrap64 (a0 - 1)) - a1_2)) a1_2 t154 t161 t162 _ A38.out).mono ?_); rintro e w' ⟨rfl, ⟨nd, rfl⟩⟩; (try simp only [errW_none, errW_some]); (try first | exact ⟨rfl, _, World.drewN_drewN _ _ _⟩ | exact ⟨rfl, _, Eq.trans (World.drewN_drewN _ _ _) (congrArg (World.drewN _) (Nat.add_assoc _ _ _))⟩))))
              go_meet
              case rel => exact ⟨_, (t161), (by first | rfl | (simp; done) | (simp [*]; done)), H', ⟨by have := HJ3.out; first | omega | exact Nat.le_refl _⟩, ⟨by (with_reducible repeat (first | refine bN ?_ _ | refine bD ?_ | refine bA ?_ _)); exact BK152.out⟩, ⟨by (with_reducible repeat (first | refine bN ?_ _ | refine bD ?_ | refine bA ?_ _)); exact BK159.out⟩, ⟨by repeat (first | (with_reducible first | exact HB.out | apply pA | apply pN | apply p1 | refine pS ?_ GE152.out | refine pS ?_ GE159.out) | exact HB.out)⟩⟩
            · replace c37 := Bool.eq_false_iff.mpr c37
              subst c37
              have H1 : (if a1_2 < (wrap64 (a0 - 1)) then (if 0 ≤ (wrap64 ((wrap64 (a0 - 2)) - a1_2)) then (codec_Join.j1 kj3 a0 (shl .u64 1 (wrap64 ((wrap64 (a0 - 2)) - a1_2))) a1_0 false a1_2 a1_3 a1_4 a1_5 a1_6 a1_7 t153 t154 t155 t156 t157) else (none)) else (codec_Join.j1 kj3 a0 0 a1_0 false a1_2 a1_3 a1_4 a1_5 a1_6 a1_7 t153 t154 t155 t156 t157)) = some (r1, r2) := by rw [if_neg (show ¬ (false = true) by decide)] at H; exact H
              clear H
              have H := H1
              clear H1
              by_cases c42 : a1_2 < (wrap64 (a0 - 1))
              · rw [if_pos c42] at H
                have c42b0 : decide (a1_2 < (wrap64 (a0 - 1))) = true := decide_eq_true c42
                clear c42
                (first | rw [c42b0] | (simp only [i64_w, i32_w]; rw [c42b0]) | skip)
                obtain ⟨ji43, hji43⟩ : ∃ j_ : Int, (wrap64 ((wrap64 (a0 - 2)) - a1_2)) = j_ := ⟨_, rfl⟩
                replace H : (if 0 ≤ (ji43) then (codec_Join.j1 kj3 a0 (shl .u64 1 (ji43)) a1_0 false a1_2 a1_3 a1_4 a1_5 a1_6 a1_7 t153 t154 t155 t156 t157) else (none)) = some (r1, r2) := by first | (rw [hji43] at H; exact H) | (simp only [hji43] at H ⊢; exact H)
                have hji43w : (IntKind.i64.wrap ((wrap64 (a0 - 2)) - a1_2)) = ji43 := (i64_w _).trans hji43
                by_cases c44 : 0 ≤ (ji43)
                · rw [if_pos c44] at H
                  have c44b0 := eq_true c44
                  have c44b1 : decide (0 ≤ (ji43)) = true := decide_eq_true c44
                  clear c44
                  obtain ⟨ji45, hji45⟩ : ∃ j_ : Int, (shl .u64 1 (ji43)) = j_ := ⟨_, rfl⟩
                  replace H : (codec_Join.j1 kj3 a0 ji45 a1_0 false a1_2 a1_3 a1_4 a1_5 a1_6 a1_7 t153 t154 t155 t156 t157) = some (r1, r2) := by first | (rw [hji45] at H; exact H) | (simp only [hji45] at H ⊢; exact H)
                  have hji45_ : (IntKind.u64.wrap (1 * 2 ^ min (ji43).toNat 64)) = ji45 := hji45
                  have hji45z : (ji43) ≤ 64 → (IntKind.u64.wrap (1 * 2 ^ (ji43).toNat)) = ji45 := shl_small hji45
                  have hji45u : (IntKind.u64.wrap (2 ^ min (ji43).toNat 64)) = ji45 := by have h_ := hji45_; rw [Int.one_mul] at h_; exact h_
                  have hji45v : (ji43) ≤ 64 → (IntKind.u64.wrap (2 ^ (ji43).toNat)) = ji45 := fun hle_ => by have h_ := hji45z hle_; rw [Int.one_mul] at h_; exact h_
                  have H' := Aside0.mk H
                  clear H
                  have hnb46 := NB152_159.out
                  have hnc46 := NB159_152.out
                  have hcz47_0 : wc.cell? ⟨gb152, 0, none⟩ = some (.bool a1_0) := (blk_cell BK152.out 0).trans rfl
                  have hcz47_1 : wc.cell? ⟨gb152, 1, none⟩ = some (.bool false) := (blk_cell BK152.out 1).trans rfl
                  have hcz47_2 : wc.cell? ⟨gb152, 2, none⟩ = some (.int .i64 a1_2) := (blk_cell BK152.out 2).trans rfl
                  have hcz47_3 : wc.cell? ⟨gb152, 3, none⟩ = some (.int .i64 a1_3) := (blk_cell BK152.out 3).trans rfl
                  have hcz47_4 : wc.cell? ⟨gb152, 4, none⟩ = some (.int .i64 a1_4) := (blk_cell BK152.out 4).trans rfl
                  have hcz47_5 : wc.cell? ⟨gb152, 5, none⟩ = some (.int .i64 a1_5) := (blk_cell BK152.out 5).trans rfl
                  have hcz47_6 : wc.cell? ⟨gb152, 6, none⟩ = some (.int .i64 a1_6) := (blk_cell BK152.out 6).trans rfl
                  have hcz47_7 : wc.cell? ⟨gb152, 7, none⟩ = some (.int .u64 a1_7) := (blk_cell BK152.out 7).trans rfl
                  have hfz47_0 := blk_frozen BK152.out 0
                  have hfz47_1 := blk_frozen BK152.out 1
                  have hfz47_2 := blk_frozen BK152.out 2
                  have hfz47_3 := blk_frozen BK152.out 3
                  have hfz47_4 := blk_frozen BK152.out 4
                  have hfz47_5 := blk_frozen BK152.out 5
                  have hfz47_6 := blk_frozen BK152.out 6
                  have hfz47_7 := blk_frozen BK152.out 7
                  go_wp2
                  repeat (go_quiet (fail); try go_wp2)
                  go_meet
                  case rel => exact ⟨_, (ji45), (by first | rfl | (simp; done) | (simp only [← hji45] <;> (first | rfl | simp)) | (simp [*]; done)), H', ⟨by have := HJ3.out; first | omega | exact Nat.le_refl _⟩, ⟨by (with_reducible repeat (first | refine bN ?_ _ | refine bD ?_ | refine bA ?_ _)); exact BK152.out⟩, ⟨by (with_reducible repeat (first | refine bN ?_ _ | refine bD ?_ | refine bA ?_ _)); exact BK159.out⟩, ⟨by repeat (first | (with_reducible first | exact HB.out | apply pA | apply pN | apply p1 | refine pS ?_ GE152.out | refine pS ?_ GE159.out) | exact HB.out)⟩⟩
                · rw [if_neg c44] at H
                  exact absurd H (by simp)
              · rw [if_neg c42] at H
                have c42b0 : decide (a1_2 < (wrap64 (a0 - 1))) = false := decide_eq_false c42
                clear c42
                (first | rw [c42b0] | (simp only [i64_w, i32_w]; rw [c42b0]) | skip)
                have H' := Aside0.mk H
                clear H
                have hnb48 := NB152_159.out
                have hnc48 := NB159_152.out
                have hcz49_0 : wc.cell? ⟨gb152, 0, none⟩ = some (.bool a1_0) := (blk_cell BK152.out 0).trans rfl
                have hcz49_1 : wc.cell? ⟨gb152, 1, none⟩ = some (.bool false) := (blk_cell BK152.out 1).trans rfl
                have hcz49_2 : wc.cell? ⟨gb152, 2, none⟩ = some (.int .i64 a1_2) := (blk_cell BK152.out 2).trans rfl
                have hcz49_3 : wc.cell? ⟨gb152, 3, none⟩ = some (.int .i64 a1_3) := (blk_cell BK152.out 3).trans rfl
                have hcz49_4 : wc.cell? ⟨gb152, 4, none⟩ = some (.int .i64 a1_4) := (blk_cell BK152.out 4).trans rfl
                have hcz49_5 : wc.cell? ⟨gb152, 5, none⟩ = some (.int .i64 a1_5) := (blk_cell BK152.out 5).trans rfl
                have hcz49_6 : wc.cell? ⟨gb152, 6, none⟩ = some (.int .i64 a1_6) := (blk_cell BK152.out 6).trans rfl
                have hcz49_7 : wc.cell? ⟨gb152, 7, none⟩ = some (.int .u64 a1_7) := (blk_cell BK152.out 7).trans rfl
                have hfz49_0 := blk_frozen BK152.out 0
                have hfz49_1 := blk_frozen BK152.out 1
                have hfz49_2 := blk_frozen BK152.out 2
                have hfz49_3 := blk_frozen BK152.out 3
                have hfz49_4 := blk_frozen BK152.out 4
                have hfz49_5 := blk_frozen BK152.out 5
                have hfz49_6 := blk_frozen BK152.out 6
                have hfz49_7 := blk_frozen BK152.out 7
                go_wp2
                repeat (go_quiet (fail); try go_wp2)
                go_meet
                case rel => exact ⟨_, (0), (by first | rfl | (simp; done) | (simp [*]; done)), H', ⟨by have := HJ3.out; first | omega | exact Nat.le_refl _⟩, ⟨by (with_reducible repeat (first | refine bN ?_ _ | refine bD ?_ | refine bA ?_ _)); exact BK152.out⟩, ⟨by (with_reducible repeat (first | refine bN ?_ _ | refine bD ?_ | refine bA ?_ _)); exact BK159.out⟩, ⟨by repeat (first | (with_reducible first | exact HB.out | apply pA | apply pN | apply p1 | refine pS ?_ GE152.out | refine pS ?_ GE159.out) | exact HB.out)⟩⟩
          case rest =>
            clear HC34
            try clear c1
            try clear q1
            try clear c2
            try clear p2
            try clear c3
            try clear c4
            try clear p6
            try clear c8
            try clear c10
            try clear c10b0
            try clear c11
            try clear c13
            try clear c13b0
            try clear c14
            try clear c16
            try clear c16b0
            try clear q16
            try clear c17
            try clear c19
            try clear c19b0
            try clear c20
            try clear c22
            try clear c22b0
            try clear c23
            try clear c25
            try clear c25b0
            try clear c26
            try clear c28
            try clear c28b0
            try clear c29
            try clear c31
            try clear c33
            try clear c35
            try clear c37
            try clear c39
            try clear c42
            try clear c42b0
            try clear c44
            try clear c44b0
            try clear c44b1
            try clear c46
            try clear c48
            try clear hcz12_0
            try clear hcz12_1
            try clear hcz12_2
            try clear hcz12_3
            try clear hcz12_4
            try clear hcz12_5
            try clear hcz12_6
            try clear hcz12_7
            try clear hcz15_0
            try clear hcz15_1
            try clear hcz15_2
            try clear hcz15_3
            try clear hcz15_4
            try clear hcz15_5
            try clear hcz15_6
            try clear hcz15_7
            try clear hcz18_0
            try clear hcz18_1
            try clear hcz18_2
            try clear hcz18_3
            try clear hcz18_4
            try clear hcz18_5
            try clear hcz18_6
            try clear hcz18_7
            try clear hcz21_0
            try clear hcz21_1
            try clear hcz21_2
            try clear hcz21_3
            try clear hcz21_4
            try clear hcz21_5
            try clear hcz21_6
            try clear hcz21_7
            try clear hcz24_0
            try clear hcz24_1
            try clear hcz24_2
            try clear hcz24_3
            try clear hcz24_4
            try clear hcz24_5
            try clear hcz24_6
            try clear hcz24_7
            try clear hcz27_0
            try clear hcz27_1
            try clear hcz27_2
            try clear hcz27_3
            try clear hcz27_4
            try clear hcz27_5
            try clear hcz27_6
            try clear hcz27_7
            try clear hcz30_0
            try clear hcz30_1
            try clear hcz30_2
            try clear hcz30_3
            try clear hcz30_4
            try clear hcz30_5
            try clear hcz30_6
            try clear hcz30_7
            try clear hcz32_0
            try clear hcz32_1
            try clear hcz32_2
            try clear hcz32_3
            try clear hcz32_4
            try clear hcz32_5
            try clear hcz32_6
            try clear hcz32_7
            try clear hcz36_0
            try clear hcz36_1
            try clear hcz36_2
            try clear hcz36_3
            try clear hcz36_4
            try clear hcz36_5
            try clear hcz36_6
            try clear hcz36_7
            try clear hcz40_0
            try clear hcz40_1
            try clear hcz40_2
            try clear hcz40_3
            try clear hcz40_4
            try clear hcz40_5
            try clear hcz40_6
            try clear hcz40_7
            try clear hcz41_0
            try clear hcz41_1
            try clear hcz41_2
            try clear hcz41_3
            try clear hcz41_4
            try clear hcz47_0
            try clear hcz47_1
            try clear hcz47_2
            try clear hcz47_3
            try clear hcz47_4
            try clear hcz47_5
            try clear hcz47_6
            try clear hcz47_7
            try clear hcz49_0
            try clear hcz49_1
            try clear hcz49_2
            try clear hcz49_3
            try clear hcz49_4
            try clear hcz49_5
            try clear hcz49_6
            try clear hcz49_7
            try clear hcz9_0
            try clear hcz9_1
            try clear hcz9_2
            try clear hcz9_3
            try clear hcz9_4
            try clear hfz12_0
            try clear hfz12_1
            try clear hfz12_2
            try clear hfz12_3
            try clear hfz12_4
            try clear hfz12_5
            try clear hfz12_6
            try clear hfz12_7
            try clear hfz15_0
            try clear hfz15_1
            try clear hfz15_2
            try clear hfz15_3
            try clear hfz15_4
            try clear hfz15_5
            try clear hfz15_6
            try clear hfz15_7
            try clear hfz18_0
            try clear hfz18_1
            try clear hfz18_2
            try clear hfz18_3
            try clear hfz18_4
            try clear hfz18_5
            try clear hfz18_6
            try clear hfz18_7
            try clear hfz21_0
            try clear hfz21_1
            try clear hfz21_2
            try clear hfz21_3
            try clear hfz21_4
            try clear hfz21_5
            try clear hfz21_6
            try clear hfz21_7
            try clear hfz24_0
            try clear hfz24_1
            try clear hfz24_2
            try clear hfz24_3
            try clear hfz24_4
            try clear hfz24_5
            try clear hfz24_6
            try clear hfz24_7
            try clear hfz27_0
            try clear hfz27_1
            try clear hfz27_2
            try clear hfz27_3
            try clear hfz27_4
            try clear hfz27_5
            try clear hfz27_6
            try clear hfz27_7
            try clear hfz30_0
            try clear hfz30_1
            try clear hfz30_2
            try clear hfz30_3
            try clear hfz30_4
            try clear hfz30_5
            try clear hfz30_6
            try clear hfz30_7
            try clear hfz32_0
            try clear hfz32_1
            try clear hfz32_2
            try clear hfz32_3
            try clear hfz32_4
            try clear hfz32_5
            try clear hfz32_6
            try clear hfz32_7
            try clear hfz36_0
            try clear hfz36_1
            try clear hfz36_2
            try clear hfz36_3
            try clear hfz36_4
            try clear hfz36_5
            try clear hfz36_6
            try clear hfz36_7
            try clear hfz40_0
            try clear hfz40_1
            try clear hfz40_2
            try clear hfz40_3
            try clear hfz40_4
            try clear hfz40_5
            try clear hfz40_6
            try clear hfz40_7
            try clear hfz41_0
            try clear hfz41_1
            try clear hfz41_2
            try clear hfz41_3
            try clear hfz41_4
            try clear hfz47_0
            try clear hfz47_1
            try clear hfz47_2
            try clear hfz47_3
            try clear hfz47_4
            try clear hfz47_5
            try clear hfz47_6
            try clear hfz47_7
            try clear hfz49_0
            try clear hfz49_1
            try clear hfz49_2
            try clear hfz49_3
            try clear hfz49_4
            try clear hfz49_5
            try clear hfz49_6
            try clear hfz49_7
            try clear hfz9_0
            try clear hfz9_1
            try clear hfz9_2
            try clear hfz9_3
            try clear hfz9_4
            try clear p2
            try clear p6
            try clear q1
            try clear q16
            try clear q160
            obtain ⟨kq, x8_33, rfl, HA, HJ33, BK152, BK159, HB⟩ := hcut
            cases kq with
            | zero => exact absurd HA.out (by simp [codec_Join.j1])
            | succ kj33 =>
              have H := HA.out
              clear HA
              simp only [codec_Join.j1] at H
              obtain ⟨ji50, hji50⟩ : ∃ j_ : Int, (wrap64 (2 - a1_4)) = j_ := ⟨_, rfl⟩
              replace H : (if 0 ≤ (ji50) then (if 0 ≤ a1_6 then (if a1_0 = true then ((shape_Fold.f a0 (IntKind.u64.wrap (-(Go.bits .or .u64 (Go.bits .or .u64 x8_33 (Go.bits .and .u64 (shl .u64 (shr .u64 (IntKind.u64.wrap (a1_5)) (ji50)) a1_6) t154)) (Go.bits .and .u64 a1_7 t154))))).bind fun bt163 => ((codec_Split.f kj33 a0 bt163.1).bind fun bt165 => (if (!(bt165.1 == a1_0) || (!(bt165.2.1 == a1_1) || (!(bt165.2.2.1 == a1_2) || (!(bt165.2.2.2.1 == a1_3) || (!(bt165.2.2.2.2.1 == a1_4) || (!(bt165.2.2.2.2.2.1 == a1_5) || (!(bt165.2.2.2.2.2.2.1 == a1_6) || (!(bt165.2.2.2.2.2.2.2.1 == a1_7))))))))) = true then (some (0, some 23)) else (some (bt163.1, none))))) else ((codec_Split.f kj33 a0 (Go.bits .or .u64 (Go.bits .or .u64 x8_33 (Go.bits .and .u64 (shl .u64 (shr .u64 (IntKind.u64.wrap (a1_5)) (ji50)) a1_6) t154)) (Go.bits .and .u64 a1_7 t154))).bind fun bt175 => (if (!(bt175.1 == a1_0) || (!(bt175.2.1 == a1_1) || (!(bt175.2.2.1 == a1_2) || (!(bt175.2.2.2.1 == a1_3) || (!(bt175.2.2.2.2.1 == a1_4) || (!(bt175.2.2.2.2.2.1 == a1_5) || (!(bt175.2.2.2.2.2.2.1 == a1_6) || (!(bt175.2.2.2.2.2.2.2.1 == a1_7))))))))) = true then (some (0, some 23)) else (some (Go.bits .or .u64 (Go.bits .or .u64 x8_33 (Go.bits .and .u64 (shl .u64 (shr .u64 (IntKind.u64.wrap (a1_5)) (ji50)) a1_6) t154)) (Go.bits .and .u64 a1_7 t154), none))))) else (none)) else (none)) = some (r1, r2) := by first | (rw [hji50] at H; exact H) | (simp only [hji50] at H ⊢; exact H)
              have hji50w : (IntKind.i64.wrap (2 - a1_4)) = ji50 := (i64_w _).trans hji50
              by_cases c51 : 0 ≤ (ji50)
              · rw [if_pos c51] at H
                have c51b0 := eq_true c51
                have c51b1 : decide (0 ≤ (ji50)) = true := decide_eq_true c51
                clear c51
                obtain ⟨ji52, hji52⟩ : ∃ j_ : Int, (shr .u64 (IntKind.u64.wrap (a1_5)) (ji50)) = j_ := ⟨_, rfl⟩
                replace H : (if 0 ≤ a1_6 then (if a1_0 = true then ((shape_Fold.f a0 (IntKind.u64.wrap (-(Go.bits .or .u64 (Go.bits .or .u64 x8_33 (Go.bits .and .u64 (shl .u64 (ji52) a1_6) t154)) (Go.bits .and .u64 a1_7 t154))))).bind fun bt163 => ((codec_Split.f kj33 a0 bt163.1).bind fun bt165 => (if (!(bt165.1 == a1_0) || (!(bt165.2.1 == a1_1) || (!(bt165.2.2.1 == a1_2) || (!(bt165.2.2.2.1 == a1_3) || (!(bt165.2.2.2.2.1 == a1_4) || (!(bt165.2.2.2.2.2.1 == a1_5) || (!(bt165.2.2.2.2.2.2.1 == a1_6) || (!(bt165.2.2.2.2.2.2.2.1 == a1_7))))))))) = true then (some (0, some 23)) else (some (bt163.1, none))))) else ((codec_Split.f kj33 a0 (Go.bits .or .u64 (Go.bits .or .u64 x8_33 (Go.bits .and .u64 (shl .u64 (ji52) a1_6) t154)) (Go.bits .and .u64 a1_7 t154))).bind fun bt175 => (if (!(bt175.1 == a1_0) || (!(bt175.2.1 == a1_1) || (!(bt175.2.2.1 == a1_2) || (!(bt175.2.2.2.1 == a1_3) || (!(bt175.2.2.2.2.1 == a1_4) || (!(bt175.2.2.2.2.2.1 == a1_5) || (!(bt175.2.2.2.2.2.2.1 == a1_6) || (!(bt175.2.2.2.2.2.2.2.1 == a1_7))))))))) = true then (some (0, some 23)) else (some (Go.bits .or .u64 (Go.bits .or .u64 x8_33 (Go.bits .and .u64 (shl .u64 (ji52) a1_6) t154)) (Go.bits .and .u64 a1_7 t154), none))))) else (none)) = some (r1, r2) := by first | (rw [hji52] at H; exact H) | (simp only [hji52] at H ⊢; exact H)
                have hji52_ : ((IntKind.u64.wrap (a1_5)) / 2 ^ min (ji50).toNat 64) = ji52 := hji52
                have hji52z : (ji50) ≤ 64 → ((IntKind.u64.wrap (a1_5)) / 2 ^ (ji50).toNat) = ji52 := shr_small hji52
                by_cases c53 : 0 ≤ a1_6
                · rw [if_pos c53] at H
                  have c53b0 := eq_true c53
                  have c53b1 : decide (0 ≤ a1_6) = true := decide_eq_true c53
                  clear c53
                  obtain ⟨ji54, hji54⟩ : ∃ j_ : Int, (shl .u64 (ji52) a1_6) = j_ := ⟨_, rfl⟩
                  replace H : (if a1_0 = true then ((shape_Fold.f a0 (IntKind.u64.wrap (-(Go.bits .or .u64 (Go.bits .or .u64 x8_33 (Go.bits .and .u64 (ji54) t154)) (Go.bits .and .u64 a1_7 t154))))).bind fun bt163 => ((codec_Split.f kj33 a0 bt163.1).bind fun bt165 => (if (!(bt165.1 == a1_0) || (!(bt165.2.1 == a1_1) || (!(bt165.2.2.1 == a1_2) || (!(bt165.2.2.2.1 == a1_3) || (!(bt165.2.2.2.2.1 == a1_4) || (!(bt165.2.2.2.2.2.1 == a1_5) || (!(bt165.2.2.2.2.2.2.1 == a1_6) || (!(bt165.2.2.2.2.2.2.2.1 == a1_7))))))))) = true then (some (0, some 23)) else (some (bt163.1, none))))) else ((codec_Split.f kj33 a0 (Go.bits .or .u64 (Go.bits .or .u64 x8_33 (Go.bits .and .u64 (ji54) t154)) (Go.bits .and .u64 a1_7 t154))).bind fun bt175 => (if (!(bt175.1 == a1_0) || (!(bt175.2.1 == a1_1) || (!(bt175.2.2.1 == a1_2) || (!(bt175.2.2.2.1 == a1_3) || (!(bt175.2.2.2.2.1 == a1_4) || (!(bt175.2.2.2.2.2.1 == a1_5) || (!(bt175.2.2.2.2.2.2.1 == a1_6) || (!(bt175.2.2.2.2.2.2.2.1 == a1_7))))))))) = true then (some (0, some 23)) else (some (Go.bits .or .u64 (Go.bits .or .u64 x8_33 (Go.bits .and .u64 (ji54) t154)) (Go.bits .and .u64 a1_7 t154), none))))) = some (r1, r2) := by first | (rw [hji54] at H; exact H) | (simp only [hji54] at H ⊢; exact H)
                  have hji54_ : (IntKind.u64.wrap ((ji52) * 2 ^ min a1_6.toNat 64)) = ji54 := hji54
                  have hji54z : a1_6 ≤ 64 → (IntKind.u64.wrap ((ji52) * 2 ^ a1_6.toNat)) = ji54 := shl_small hji54
                  by_cases c55 : a1_0 = true
                  · subst c55
                    have H1 : ((shape_Fold.f a0 (IntKind.u64.wrap (-(Go.bits .or .u64 (Go.bits .or .u64 x8_33 (Go.bits .and .u64 (ji54) t154)) (Go.bits .and .u64 a1_7 t154))))).bind fun bt163 => ((codec_Split.f kj33 a0 bt163.1).bind fun bt165 => (if (!(bt165.1 == true) || (!(bt165.2.1 == a1_1) || (!(bt165.2.2.1 == a1_2) || (!(bt165.2.2.2.1 == a1_3) || (!(bt165.2.2.2.2.1 == a1_4) || (!(bt165.2.2.2.2.2.1 == a1_5) || (!(bt165.2.2.2.2.2.2.1 == a1_6) || (!(bt165.2.2.2.2.2.2.2.1 == a1_7))))))))) = true then (some (0, some 23)) else (some (bt163.1, none))))) = some (r1, r2) := by rw [if_pos rfl] at H; exact H
                    clear H
                    have H := H1
                    clear H1
                    replace H := Option.bind_eq_some_iff.mp H
                    obtain ⟨⟨t163, t164⟩, A560, H⟩ := H
                    replace H : ((codec_Split.f kj33 a0 t163).bind fun bt165 => (if (!(bt165.1 == true) || (!(bt165.2.1 == a1_1) || (!(bt165.2.2.1 == a1_2) || (!(bt165.2.2.2.1 == a1_3) || (!(bt165.2.2.2.2.1 == a1_4) || (!(bt165.2.2.2.2.2.1 == a1_5) || (!(bt165.2.2.2.2.2.2.1 == a1_6) || (!(bt165.2.2.2.2.2.2.2.1 == a1_7))))))))) = true then (some (0, some 23)) else (some (t163, none)))) = some (r1, r2) := H
                    have A56 := Aside0.mk A560
                    clear A560
                    replace H := Option.bind_eq_some_iff.mp H
                    obtain ⟨⟨t165, t166, t167, t168, t169, t170, t171, t172, t173⟩, A570, H⟩ := H
                    replace H : (if (!(t165 == true) || (!(t166 == a1_1) || (!(t167 == a1_2) || (!(t168 == a1_3) || (!(t169 == a1_4) || (!(t170 == a1_5) || (!(t171 == a1_6) || (!(t172 == a1_7))))))))) = true then (some (0, some 23)) else (some (t163, none))) = some (r1, r2) := H
                    have A57 := Aside0.mk A570
                    clear A570
                    by_cases c58 : (!(t165 == true) || (!(t166 == a1_1) || (!(t167 == a1_2) || (!(t168 == a1_3) || (!(t169 == a1_4) || (!(t170 == a1_5) || (!(t171 == a1_6) || (!(t172 == a1_7))))))))) = true
                    · rw [if_pos c58] at H
                      have c58b0 : (!(t165 == true) || (!(t166 == a1_1) || (!(t167 == a1_2) || (!(t168 == a1_3) || (!(t169 == a1_4) || (!(t170 == a1_5) || (!(t171 == a1_6) || (!(t172 == a1_7))))))))) = true := c58
                      (try (have c58b9 := c58b0; simp only [beq_true, beq_false, Bool.not_not] at c58b9))
                      clear c58
                      simp only [Option.some.injEq, Prod.mk.injEq] at H
                      obtain ⟨rfl, rfl⟩ := H
                      have hnb59 := NB152_159.out
                      have hnc59 := NB159_152.out
                      have hcz60_0 : wc.cell? ⟨gb152, 0, none⟩ = some (.bool true) := (blk_cell BK152.out 0).trans rfl
                      have hcz60_1 : wc.cell? ⟨gb152, 1, none⟩ = some (.bool a1_1) := (blk_cell BK152.out 1).trans rfl
                      have hcz60_2 : wc.cell? ⟨gb152, 2, none⟩ = some (.int .i64 a1_2) := (blk_cell BK152.out 2).trans rfl
                      have hcz60_3 : wc.cell? ⟨gb152, 3, none⟩ = some (.int .i64 a1_3) := (blk_cell BK152.out 3).trans rfl
                      have hcz60_4 : wc.cell? ⟨gb152, 4, none⟩ = some (.int .i64 a1_4) := (blk_cell BK152.out 4).trans rfl
                      have hcz60_5 : wc.cell? ⟨gb152, 5, none⟩ = some (.int .i64 a1_5) := (blk_cell BK152.out 5).trans rfl
                      have hcz60_6 : wc.cell? ⟨gb152, 6, none⟩ = some (.int .i64 a1_6) := (blk_cell BK152.out 6).trans rfl
                      have hcz60_7 : wc.cell? ⟨gb152, 7, none⟩ = some (.int .u64 a1_7) := (blk_cell BK152.out 7).trans rfl
                      have hfz60_0 := blk_frozen BK152.out 0
                      have hfz60_1 := blk_frozen BK152.out 1
                      have hfz60_2 := blk_frozen BK152.out 2
                      have hfz60_3 := blk_frozen BK152.out 3
                      have hfz60_4 := blk_frozen BK152.out 4
                      have hfz60_5 := blk_frozen BK152.out 5
                      have hfz60_6 := blk_frozen BK152.out 6
                      have hfz60_7 := blk_frozen BK152.out 7
                      have hcz61_0 : wc.cell? ⟨gb159, 0, none⟩ = some (.int .i64 t153) := (blk_cell BK159.out 0).trans rfl
                      have hcz61_1 : wc.cell? ⟨gb159, 1, none⟩ = some (.int .u64 t154) := (blk_cell BK159.out 1).trans rfl
                      have hcz61_2 : wc.cell? ⟨gb159, 2, none⟩ = some (.int .u64 t155) := (blk_cell BK159.out 2).trans rfl
                      have hcz61_3 : wc.cell? ⟨gb159, 3, none⟩ = some (.int .u64 t156) := (blk_cell BK159.out 3).trans rfl
                      have hcz61_4 : wc.cell? ⟨gb159, 4, none⟩ = some (.int .i64 t157) := (blk_cell BK159.out 4).trans rfl
                      have hfz61_0 := blk_frozen BK159.out 0
                      have hfz61_1 := blk_frozen BK159.out 1
                      have hfz61_2 := blk_frozen BK159.out 2
                      have hfz61_3 := blk_frozen BK159.out 3
                      have hfz61_4 := blk_frozen BK159.out 4
                      go_wp2_with (first | (go_at_call 34; (with_reducible refine (shape_Fold.calls a0 (IntKind.u64.wrap (-(Go.bits .or .u64 (Go.bits .or .u64 x8_33 (Go.bits .and .u64 (ji54) t154)) (Go.bits .and .u64 a1_7 t154)))) t163 t164 _ A56.out).mono ?_); rintro e w' ⟨rfl, ⟨nd, rfl⟩⟩; (try simp only [errW_none, errW_some]); (try first | exact ⟨rfl, _, World.drewN_drewN _ _ _⟩ | exact ⟨rfl, _, Eq.trans (World.drewN_drewN _ _ _) (congrArg (World.drewN _) (Nat.add_assoc _ _ _))⟩)) | (go_at_call 11; (with_reducible refine (codec_Split.calls kj33 a0 t163 t165 t166 t167 t168 t169 t170 t171 t172 t173 _ A57.out).mono ?_); rintro e w62 ⟨rfl, hb⟩; have n0_ := Aside0.mk (bB3 BK152.out hb); have n1_ := Aside0.mk (bB3 BK159.out hb); have n2_ := Aside0.mk (bS3 HB.out hb); clear BK152; clear BK159; clear HB; have BK152 := n0_; have BK159 := n1_; have HB := n2_; clear n0_ n1_ n2_; (try clear hb); (try clear hb2); (try clear hk); (try clear hi); (try simp only [errW_none, errW_some])) | ((with_reducible refine gD (N := 9) rfl ?_); refine bE3 9 #[.bool false, .bool false, .int .i64 0, .int .i64 0, .int .i64 0, .int .i64 0, .int .i64 0, .int .u64 0] 25 ?hr ?_; (case hr => first | (go_simp; done) | (go_simp; rfl)); intro gb174 hg w63 hbox hb; have n0_ := Aside0.mk (bB3 BK152.out hb); have n1_ := Aside0.mk (bB3 BK159.out hb); have n2_ := Aside0.mk (bS3 HB.out hb); have n3_ := Aside0.mk (hbox); have n4_ := Aside0.mk ((bZ3 hg HB.out)); have n5_ := Aside0.mk ((bZ3 hg HB.out)); have n6_ := Aside0.mk ((bL3 hg BK152.out)); have n7_ := Aside0.mk ((bG3 hg BK152.out)); have n8_ := Aside0.mk ((bL3 hg BK159.out)); have n9_ := Aside0.mk ((bG3 hg BK159.out)); clear BK152; clear BK159; clear HB; have BK152 := n0_; have BK159 := n1_; have HB := n2_; have BK174 := n3_; have GW174 := n4_; have GE174 := n5_; have NB152_174 := n6_; have NB174_152 := n7_; have NB159_174 := n8_; have NB174_159 := n9_; clear n0_ n1_ n2_ n3_ n4_ n5_ n6_ n7_ n8_ n9_; clear hb hbox hg; have hnb64 := NB174_152.out; have hnc64 := NB152_174.out; have hnb65 := NB174_159.out; have hnc65 := NB159_174.out; have hcz66_0 : w63.cell? ⟨gb174, 0, none⟩ = some (.bool false) := (blk_cell BK174.out 0).trans rfl; have hcz66_1 : w63.cell? ⟨gb174, 1, none⟩ = some (.bool false) := (blk_cell BK174.out 1).trans rfl; have hcz66_2 : w63.cell? ⟨gb174, 2, none⟩ = some (.int .i64 0) := (blk_cell BK174.out 2).trans rfl; have hcz66_3 : w63.cell? ⟨gb174, 3, none⟩ = some (.int .i64 0) := (blk_cell BK174.out 3).trans rfl; have hcz66_4 : w63.cell? ⟨gb174, 4, none⟩ = some (.int .i64 0) := (blk_cell BK174.out 4).trans rfl; have hcz66_5 : w63.cell? ⟨gb174, 5, none⟩ = some (.int .i64 0) := (blk_cell BK174.out 5).trans rfl; have hcz66_6 : w63.cell? ⟨gb174, 6, none⟩ = some (.int .i64 0) := (blk_cell BK174.out 6).trans rfl; have hcz66_7 : w63.cell? ⟨gb174, 7, none⟩ = some (.int .u64 0) := (blk_cell BK174.out 7).trans rfl; have hfz66_0 := blk_frozen BK174.out 0; have hfz66_1 := blk_frozen BK174.out 1; have hfz66_2 := blk_frozen BK174.out 2; have hfz66_3 := blk_frozen BK174.out 3; have hfz66_4 := blk_frozen BK174.out 4; have hfz66_5 := blk_frozen BK174.out 5; have hfz66_6 := blk_frozen BK174.out 6; have hfz66_7 := blk_frozen BK174.out 7; have hcz67_0 : w63.cell? ⟨gb152, 0, none⟩ = some (.bool true) := (blk_cell BK152.out 0).trans rfl; have hcz67_1 : w63.cell? ⟨gb152, 1, none⟩ = some (.bool a1_1) := (blk_cell BK152.out 1).trans rfl; have hcz67_2 : w63.cell? ⟨gb152, 2, none⟩ = some (.int .i64 a1_2) := (blk_cell BK152.out 2).trans rfl; have hcz67_3 : w63.cell? ⟨gb152, 3, none⟩ = some (.int .i64 a1_3) := (blk_cell BK152.out 3).trans rfl; have hcz67_4 : w63.cell? ⟨gb152, 4, none⟩ = some (.int .i64 a1_4) := (blk_cell BK152.out 4).trans rfl; have hcz67_5 : w63.cell? ⟨gb152, 5, none⟩ = some (.int .i64 a1_5) := (blk_cell BK152.out 5).trans rfl; have hcz67_6 : w63.cell? ⟨gb152, 6, none⟩ = some (.int .i64 a1_6) := (blk_cell BK152.out 6).trans rfl; have hcz67_7 : w63.cell? ⟨gb152, 7, none⟩ = some (.int .u64 a1_7) := (blk_cell BK152.out 7).trans rfl; have hfz67_0 := blk_frozen BK152.out 0; have hfz67_1 := blk_frozen BK152.out 1; have hfz67_2 := blk_frozen BK152.out 2; have hfz67_3 := blk_frozen BK152.out 3; have hfz67_4 := blk_frozen BK152.out 4; have hfz67_5 := blk_frozen BK152.out 5; have hfz67_6 := blk_frozen BK152.out 6; have hfz67_7 := blk_frozen BK152.out 7))
                      repeat (go_quiet (first | (go_at_call 34; (with_reducible refine (shape_Fold.calls a0 (IntKind.u64.wrap (-(Go.bits .or .u64 (Go.bits .or .u64 x8_33 (Go.bits .and .u64 (ji54) t154)) (Go.bits .and .u64 a1_7 t154)))) t163 t164 _ A56.out).mono ?_); rintro e w' ⟨rfl, ⟨nd, rfl⟩⟩; (try simp only [errW_none, errW_some]); (try first | exact ⟨rfl, _, World.drewN_drewN _ _ _⟩ | exact ⟨rfl, _, Eq.trans (World.drewN_drewN _ _ _) (congrArg (World.drewN _) (Nat.add_assoc _ _ _))⟩)) | (go_at_call 11; (with_reducible refine (codec_Split.calls kj33 a0 t163 t165 t166 t167 t168 t169 t170 t171 t172 t173 _ A57.out).mono ?_); rintro e w62 ⟨rfl, hb⟩; have n0_ := Aside0.mk (bB3 BK152.out hb); have n1_ := Aside0.mk (bB3 BK159.out hb); have n2_ := Aside0.mk (bS3 HB.out hb); clear BK152; clear BK159; clear HB; have BK152 := n0_; have BK159 := n1_; have HB := n2_; clear n0_ n1_ n2_; (try clear hb); (try clear hb2); (try clear hk); (try clear hi); (try simp only [errW_none, errW_some])) | ((with_reducible refine gD (N := 9) rfl ?_); refine bE3 9 #[.bool false, .bool false, .int .i64 0, .int .i64 0, .int .i64 0, .int .i64 0, .int .i64 0, .int .u64 0] 25 ?hr ?_; (case hr => first | (go_simp; done) | (go_simp; rfl)); intro gb174 hg w63 hbox hb; have n0_ := Aside0.mk (bB3 BK152.out hb); have n1_ := Aside0.mk (bB3 BK159.out hb); have n2_ := Aside0.mk (bS3 HB.out hb); have n3_ := Aside0.mk (hbox); have n4_ := Aside0.mk ((bZ3 hg HB.out)); have n5_ := Aside0.mk ((bZ3 hg HB.out)); have n6_ := Aside0.mk ((bL3 hg BK152.out)); have n7_ := Aside0.mk ((bG3 hg BK152.out)); have n8_ := Aside0.mk ((bL3 hg BK159.out)); have n9_ := Aside0.mk ((bG3 hg BK159.out)); clear BK152; clear BK159; clear HB; have BK152 := n0_; have BK159 := n1_; have HB := n2_; have BK174 := n3_; have GW174 := n4_; have GE174 := n5_; have NB152_174 := n6_; have NB174_152 := n7_; have NB159_174 := n8_; have NB174_159 := n9_; clear n0_ n1_ n2_ n3_ n4_ n5_ n6_ n7_ n8_ n9_; clear hb hbox hg; have hnb64 := NB174_152.out; have hnc64 := NB152_174.out; have hnb65 := NB174_159.out; have hnc65 := NB159_174.out; have hcz66_0 : w63.cell? ⟨gb174, 0, none⟩ = some (.bool false) := (blk_cell BK174.out 0).trans rfl; have hcz66_1 : w63.cell? ⟨gb174, 1, none⟩ = some (.bool false) := (blk_cell BK174.out 1).trans rfl; have hcz66_2 : w63.cell? ⟨gb174, 2, none⟩ = some (.int .i64 0) := (blk_cell BK174.out 2).trans rfl; have hcz66_3 : w63.cell? ⟨gb174, 3, none⟩ = some (.int .i64 0) := (blk_cell BK174.out 3).trans rfl; have hcz66_4 : w63.cell? ⟨gb174, 4, none⟩ = some (.int .i64 0) := (blk_cell BK174.out 4).trans rfl; have hcz66_5 : w63.cell? ⟨gb174, 5, none⟩ = some (.int .i64 0) := (blk_cell BK174.out 5).trans rfl; have hcz66_6 : w63.cell? ⟨gb174, 6, none⟩ = some (.int .i64 0) := (blk_cell BK174.out 6).trans rfl; have hcz66_7 : w63.cell? ⟨gb174, 7, none⟩ = some (.int .u64 0) := (blk_cell BK174.out 7).trans rfl; have hfz66_0 := blk_frozen BK174.out 0; have hfz66_1 := blk_frozen BK174.out 1; have hfz66_2 := blk_frozen BK174.out 2; have hfz66_3 := blk_frozen BK174.out 3; have hfz66_4 := blk_frozen BK174.out 4; have hfz66_5 := blk_frozen BK174.out 5; have hfz66_6 := blk_frozen BK174.out 6; have hfz66_7 := blk_frozen BK174.out 7; have hcz67_0 : w63.cell? ⟨gb152, 0, none⟩ = some (.bool true) := (blk_cell BK152.out 0).trans rfl; have hcz67_1 : w63.cell? ⟨gb152, 1, none⟩ = some (.bool a1_1) := (blk_cell BK152.out 1).trans rfl; have hcz67_2 : w63.cell? ⟨gb152, 2, none⟩ = some (.int .i64 a1_2) := (blk_cell BK152.out 2).trans rfl; have hcz67_3 : w63.cell? ⟨gb152, 3, none⟩ = some (.int .i64 a1_3) := (blk_cell BK152.out 3).trans rfl; have hcz67_4 : w63.cell? ⟨gb152, 4, none⟩ = some (.int .i64 a1_4) := (blk_cell BK152.out 4).trans rfl; have hcz67_5 : w63.cell? ⟨gb152, 5, none⟩ = some (.int .i64 a1_5) := (blk_cell BK152.out 5).trans rfl; have hcz67_6 : w63.cell? ⟨gb152, 6, none⟩ = some (.int .i64 a1_6) := (blk_cell BK152.out 6).trans rfl; have hcz67_7 : w63.cell? ⟨gb152, 7, none⟩ = some (.int .u64 a1_7) := (blk_cell BK152.out 7).trans rfl; have hfz67_0 := blk_frozen BK152.out 0; have hfz67_1 := blk_frozen BK152.out 1; have hfz67_2 := blk_frozen BK152.out 2; have hfz67_3 := blk_frozen BK152.out 3; have hfz67_4 := blk_frozen BK152.out 4; have hfz67_5 := blk_frozen BK152.out 5; have hfz67_6 := blk_frozen BK152.out 6; have hfz67_7 := blk_frozen BK152.out 7)); try go_wp2_with (first | (go_at_call 34; (with_reducible refine (shape_Fold.calls a0 (IntKind.u64.wrap (-(Go.bits .or .u64 (Go.bits .or .u64 x8_33 (Go.bits .and .u64 (ji54) t154)) (Go.bits .and .u64 a1_7 t154)))) t163 t164 _ A56.out).mono ?_); rintro e w' ⟨rfl, ⟨nd, rfl⟩⟩; (try simp only [errW_none, errW_some]); (try first | exact ⟨rfl, _, World.drewN_drewN _ _ _⟩ | exact ⟨rfl, _, Eq.trans (World.drewN_drewN _ _ _) (congrArg (World.drewN _) (Nat.add_assoc _ _ _))⟩)) | (go_at_call 11; (with_reducible refine (codec_Split.calls kj33 a0 t163 t165 t166 t167 t168 t169 t170 t171 t172 t173 _ A57.out).mono ?_); rintro e w62 ⟨rfl, hb⟩; have n0_ := Aside0.mk (bB3 BK152.out hb); have n1_ := Aside0.mk (bB3 BK159.out hb); have n2_ := Aside0.mk (bS3 HB.out hb); clear BK152; clear BK159; clear HB; have BK152 := n0_; have BK159 := n1_; have HB := n2_; clear n0_ n1_ n2_; (try clear hb); (try clear hb2); (try clear hk); (try clear hi); (try simp only [errW_none, errW_some])) | ((with_reducible refine gD (N := 9) rfl ?_); refine bE3 9 #[.bool false, .bool false, .int .i64 0, .int .i64 0, .int .i64 0, .int .i64 0, .int .i64 0, .int .u64 0] 25 ?hr ?_; (case hr => first | (go_simp; done) | (go_simp; rfl)); intro gb174 hg w63 hbox hb; have n0_ := Aside0.mk (bB3 BK152.out hb); have n1_ := Aside0.mk (bB3 BK159.out hb); have n2_ := Aside0.mk (bS3 HB.out hb); have n3_ := Aside0.mk (hbox); have n4_ := Aside0.mk ((bZ3 hg HB.out)); have n5_ := Aside0.mk ((bZ3 hg HB.out)); have n6_ := Aside0.mk ((bL3 hg BK152.out)); have n7_ := Aside0.mk ((bG3 hg BK152.out)); have n8_ := Aside0.mk ((bL3 hg BK159.out)); have n9_ := Aside0.mk ((bG3 hg BK159.out)); clear BK152; clear BK159; clear HB; have BK152 := n0_; have BK159 := n1_; have HB := n2_; have BK174 := n3_; have GW174 := n4_; have GE174 := n5_; have NB152_174 := n6_; have NB174_152 := n7_; have NB159_174 := n8_; have NB174_159 := n9_; clear n0_ n1_ n2_ n3_ n4_ n5_ n6_ n7_ n8_ n9_; clear hb hbox hg; have hnb64 := NB174_152.out; have hnc64 := NB152_174.out; have hnb65 := NB174_159.out; have hnc65 := NB159_174.out; have hcz66_0 : w63.cell? ⟨gb174, 0, none⟩ = some (.bool false) := (blk_cell BK174.out 0).trans rfl; have hcz66_1 : w63.cell? ⟨gb174, 1, none⟩ = some (.bool false) := (blk_cell BK174.out 1).trans rfl; have hcz66_2 : w63.cell? ⟨gb174, 2, none⟩ = some (.int .i64 0) := (blk_cell BK174.out 2).trans rfl; have hcz66_3 : w63.cell? ⟨gb174, 3, none⟩ = some (.int .i64 0) := (blk_cell BK174.out 3).trans rfl; have hcz66_4 : w63.cell? ⟨gb174, 4, none⟩ = some (.int .i64 0) := (blk_cell BK174.out 4).trans rfl; have hcz66_5 : w63.cell? ⟨gb174, 5, none⟩ = some (.int .i64 0) := (blk_cell BK174.out 5).trans rfl; have hcz66_6 : w63.cell? ⟨gb174, 6, none⟩ = some (.int .i64 0) := (blk_cell BK174.out 6).trans rfl; have hcz66_7 : w63.cell? ⟨gb174, 7, none⟩ = some (.int .u64 0) := (blk_cell BK174.out 7).trans rfl; have hfz66_0 := blk_frozen BK174.out 0; have hfz66_1 := blk_frozen BK174.out 1; have hfz66_2 := blk_frozen BK174.out 2; have hfz66_3 := blk_frozen BK174.out 3; have hfz66_4 := blk_frozen BK174.out 4; have hfz66_5 := blk_frozen BK174.out 5; have hfz66_6 := blk_frozen BK174.out 6; have hfz66_7 := blk_frozen BK174.out 7; have hcz67_0 : w63.cell? ⟨gb152, 0, none⟩ = some (.bool true) := (blk_cell BK152.out 0).trans rfl; have hcz67_1 : w63.cell? ⟨gb152, 1, none⟩ = some (.bool a1_1) := (blk_cell BK152.out 1).trans rfl; have hcz67_2 : w63.cell? ⟨gb152, 2, none⟩ = some (.int .i64 a1_2) := (blk_cell BK152.out 2).trans rfl; have hcz67_3 : w63.cell? ⟨gb152, 3, none⟩ = some (.int .i64 a1_3) := (blk_cell BK152.out 3).trans rfl; have hcz67_4 : w63.cell? ⟨gb152, 4, none⟩ = some (.int .i64 a1_4) := (blk_cell BK152.out 4).trans rfl; have hcz67_5 : w63.cell? ⟨gb152, 5, none⟩ = some (.int .i64 a1_5) := (blk_cell BK152.out 5).trans rfl; have hcz67_6 : w63.cell? ⟨gb152, 6, none⟩ = some (.int .i64 a1_6) := (blk_cell BK152.out 6).trans rfl; have hcz67_7 : w63.cell? ⟨gb152, 7, none⟩ = some (.int .u64 a1_7) := (blk_cell BK152.out 7).trans rfl; have hfz67_0 := blk_frozen BK152.out 0; have hfz67_1 := blk_frozen BK152.out 1; have hfz67_2 := blk_frozen BK152.out 2; have hfz67_3 := blk_frozen BK152.out 3; have hfz67_4 := blk_frozen BK152.out 4; have hfz67_5 := blk_frozen BK152.out 5; have hfz67_6 := blk_frozen BK152.out 6; have hfz67_7 := blk_frozen BK152.out 7)))
                      go_ret2
                      exact ⟨by first | rfl | (simp [errW_none, errW_some] <;> rfl) | (simp only [← hji50, ← hji52, ← hji54]; first | rfl | (simp [errW_none, errW_some] <;> rfl)) | (simp [*, errW_none, errW_some] <;> rfl), by repeat (first | (with_reducible first | exact HB.out | apply pA | apply pN | apply p1 | refine pS ?_ GE152.out | refine pS ?_ GE159.out | refine pS ?_ GE174.out) | exact HB.out)⟩
                    · rw [if_neg c58] at H
                      have c58b0 : (!(t165 == true) || (!(t166 == a1_1) || (!(t167 == a1_2) || (!(t168 == a1_3) || (!(t169 == a1_4) || (!(t170 == a1_5) || (!(t171 == a1_6) || (!(t172 == a1_7))))))))) = false := by simpa using c58
                      (try (have c58b9 := c58b0; simp only [beq_true, beq_false, Bool.not_not] at c58b9))
                      clear c58
                      simp only [Option.some.injEq, Prod.mk.injEq] at H
                      obtain ⟨rfl, rfl⟩ := H
                      have hnb68 := NB152_159.out
                      have hnc68 := NB159_152.out
                      have hcz69_0 : wc.cell? ⟨gb152, 0, none⟩ = some (.bool true) := (blk_cell BK152.out 0).trans rfl
                      have hcz69_1 : wc.cell? ⟨gb152, 1, none⟩ = some (.bool a1_1) := (blk_cell BK152.out 1).trans rfl
                      have hcz69_2 : wc.cell? ⟨gb152, 2, none⟩ = some (.int .i64 a1_2) := (blk_cell BK152.out 2).trans rfl
                      have hcz69_3 : wc.cell? ⟨gb152, 3, none⟩ = some (.int .i64 a1_3) := (blk_cell BK152.out 3).trans rfl
                      have hcz69_4 : wc.cell? ⟨gb152, 4, none⟩ = some (.int .i64 a1_4) := (blk_cell BK152.out 4).trans rfl
                      have hcz69_5 : wc.cell? ⟨gb152, 5, none⟩ = some (.int .i64 a1_5) := (blk_cell BK152.out 5).trans rfl
                      have hcz69_6 : wc.cell? ⟨gb152, 6, none⟩ = some (.int .i64 a1_6) := (blk_cell BK152.out 6).trans rfl
                      have hcz69_7 : wc.cell? ⟨gb152, 7, none⟩ = some (.int .u64 a1_7) := (blk_cell BK152.out 7).trans rfl
                      have hfz69_0 := blk_frozen BK152.out 0
                      have hfz69_1 := blk_frozen BK152.out 1
                      have hfz69_2 := blk_frozen BK152.out 2
                      have hfz69_3 := blk_frozen BK152.out 3
                      have hfz69_4 := blk_frozen BK152.out 4
                      have hfz69_5 := blk_frozen BK152.out 5
                      have hfz69_6 := blk_frozen BK152.out 6
                      have hfz69_7 := blk_frozen BK152.out 7
                      have hcz70_0 : wc.cell? ⟨gb159, 0, none⟩ = some (.int .i64 t153) := (blk_cell BK159.out 0).trans rfl
                      have hcz70_1 : wc.cell? ⟨gb159, 1, none⟩ = some (.int .u64 t154) := (blk_cell BK159.out 1).trans rfl
                      have hcz70_2 : wc.cell? ⟨gb159, 2, none⟩ = some (.int .u64 t155) := (blk_cell BK159.out 2).trans rfl
                      have hcz70_3 : wc.cell? ⟨gb159, 3, none⟩ = some (.int .u64 t156) := (blk_cell BK159.out 3).trans rfl
                      have hcz70_4 : wc.cell? ⟨gb159, 4, none⟩ = some (.int .i64 t157) := (blk_cell BK159.out 4).trans rfl
                      have hfz70_0 := blk_frozen BK159.out 0
                      have hfz70_1 := blk_frozen BK159.out 1
                      have hfz70_2 := blk_frozen BK159.out 2
                      have hfz70_3 := blk_frozen BK159.out 3
                      have hfz70_4 := blk_frozen BK159.out 4
                      go_wp2_with (first | (go_at_call 34; (with_reducible refine (shape_Fold.calls a0 (IntKind.u64.wrap (-(Go.bits .or .u64 (Go.bits .or .u64 x8_33 (Go.bits .and .u64 (ji54) t154)) (Go.bits .and .u64 a1_7 t154)))) t163 t164 _ A56.out).mono ?_); rintro e w' ⟨rfl, ⟨nd, rfl⟩⟩; (try simp only [errW_none, errW_some]); (try first | exact ⟨rfl, _, World.drewN_drewN _ _ _⟩ | exact ⟨rfl, _, Eq.trans (World.drewN_drewN _ _ _) (congrArg (World.drewN _) (Nat.add_assoc _ _ _))⟩)) | (go_at_call 11; (with_reducible refine (codec_Split.calls kj33 a0 t163 t165 t166 t167 t168 t169 t170 t171 t172 t173 _ A57.out).mono ?_); rintro e w71 ⟨rfl, hb⟩; have n0_ := Aside0.mk (bB3 BK152.out hb); have n1_ := Aside0.mk (bB3 BK159.out hb); have n2_ := Aside0.mk (bS3 HB.out hb); clear BK152; clear BK159; clear HB; have BK152 := n0_; have BK159 := n1_; have HB := n2_; clear n0_ n1_ n2_; (try clear hb); (try clear hb2); (try clear hk); (try clear hi); (try simp only [errW_none, errW_some])) | ((with_reducible refine gD (N := 9) rfl ?_); refine bE3 9 #[.bool false, .bool false, .int .i64 0, .int .i64 0, .int .i64 0, .int .i64 0, .int .i64 0, .int .u64 0] 25 ?hr ?_; (case hr => first | (go_simp; done) | (go_simp; rfl)); intro gb174 hg w72 hbox hb; have n0_ := Aside0.mk (bB3 BK152.out hb); have n1_ := Aside0.mk (bB3 BK159.out hb); have n2_ := Aside0.mk (bS3 HB.out hb); have n3_ := Aside0.mk (hbox); have n4_ := Aside0.mk ((bZ3 hg HB.out)); have n5_ := Aside0.mk ((bZ3 hg HB.out)); have n6_ := Aside0.mk ((bL3 hg BK152.out)); have n7_ := Aside0.mk ((bG3 hg BK152.out)); have n8_ := Aside0.mk ((bL3 hg BK159.out)); have n9_ := Aside0.mk ((bG3 hg BK159.out)); clear BK152; clear BK159; clear HB; have BK152 := n0_; have BK159 := n1_; have HB := n2_; have BK174 := n3_; have GW174 := n4_; have GE174 := n5_; have NB152_174 := n6_; have NB174_152 := n7_; have NB159_174 := n8_; have NB174_159 := n9_; clear n0_ n1_ n2_ n3_ n4_ n5_ n6_ n7_ n8_ n9_; clear hb hbox hg; have hnb73 := NB174_152.out; have hnc73 := NB152_174.out; have hnb74 := NB174_159.out; have hnc74 := NB159_174.out; have hcz75_0 : w72.cell? ⟨gb174, 0, none⟩ = some (.bool false) := (blk_cell BK174.out 0).trans rfl; have hcz75_1 : w72.cell? ⟨gb174, 1, none⟩ = some (.bool false) := (blk_cell BK174.out 1).trans rfl; have hcz75_2 : w72.cell? ⟨gb174, 2, none⟩ = some (.int .i64 0) := (blk_cell BK174.out 2).trans rfl; have hcz75_3 : w72.cell? ⟨gb174, 3, none⟩ = some (.int .i64 0) := (blk_cell BK174.out 3).trans rfl; have hcz75_4 : w72.cell? ⟨gb174, 4, none⟩ = some (.int .i64 0) := (blk_cell BK174.out 4).trans rfl; have hcz75_5 : w72.cell? ⟨gb174, 5, none⟩ = some (.int .i64 0) := (blk_cell BK174.out 5).trans rfl; have hcz75_6 : w72.cell? ⟨gb174, 6, none⟩ = some (.int .i64 0) := (blk_cell BK174.out 6).trans rfl; have hcz75_7 : w72.cell? ⟨gb174, 7, none⟩ = some (.int .u64 0) := (blk_cell BK174.out 7).trans rfl; have hfz75_0 := blk_frozen BK174.out 0; have hfz75_1 := blk_frozen BK174.out 1; have hfz75_2 := blk_frozen BK174.out 2; have hfz75_3 := blk_frozen BK174.out 3; have hfz75_4 := blk_frozen BK174.out 4; have hfz75_5 := blk_frozen BK174.out 5; have hfz75_6 := blk_frozen BK174.out 6; have hfz75_7 := blk_frozen BK174.out 7; have hcz76_0 : w72.cell? ⟨gb152, 0, none⟩ = some (.bool true) := (blk_cell BK152.out 0).trans rfl; have hcz76_1 : w72.cell? ⟨gb152, 1, none⟩ = some (.bool a1_1) := (blk_cell BK152.out 1).trans rfl; have hcz76_2 : w72.cell? ⟨gb152, 2, none⟩ = some (.int .i64 a1_2) := (blk_cell BK152.out 2).trans rfl; have hcz76_3 : w72.cell? ⟨gb152, 3, none⟩ = some (.int .i64 a1_3) := (blk_cell BK152.out 3).trans rfl; have hcz76_4 : w72.cell? ⟨gb152, 4, none⟩ = some (.int .i64 a1_4) := (blk_cell BK152.out 4).trans rfl; have hcz76_5 : w72.cell? ⟨gb152, 5, none⟩ = some (.int .i64 a1_5) := (blk_cell BK152.out 5).trans rfl; have hcz76_6 : w72.cell? ⟨gb152, 6, none⟩ = some (.int .i64 a1_6) := (blk_cell BK152.out 6).trans rfl; have hcz76_7 : w72.cell? ⟨gb152, 7, none⟩ = some (.int .u64 a1_7) := (blk_cell BK152.out 7).trans rfl; have hfz76_0 := blk_frozen BK152.out 0; have hfz76_1 := blk_frozen BK152.out 1; have hfz76_2 := blk_frozen BK152.out 2; have hfz76_3 := blk_frozen BK152.out 3; have hfz76_4 := blk_frozen BK152.out 4; have hfz76_5 := blk_frozen BK152.out 5; have hfz76_6 := blk_frozen BK152.out 6; have hfz76_7 := blk_frozen BK152.out 7))
                      repeat (go_quiet (first | (go_at_call 34; (with_reducible refine (shape_Fold.calls a0 (IntKind.u64.wrap (-(Go.bits .or .u64 (Go.bits .or .u64 x8_33 (Go.bits .and .u64 (ji54) t154)) (Go.bits .and .u64 a1_7 t154)))) t163 t164 _ A56.out).mono ?_); rintro e w' ⟨rfl, ⟨nd, rfl⟩⟩; (try simp only [errW_none, errW_some]); (try first | exact ⟨rfl, _, World.drewN_drewN _ _ _⟩ | exact ⟨rfl, _, Eq.trans (World.drewN_drewN _ _ _) (congrArg (World.drewN _) (Nat.add_assoc _ _ _))⟩)) | (go_at_call 11; (with_reducible refine (codec_Split.calls kj33 a0 t163 t165 t166 t167 t168 t169 t170 t171 t172 t173 _ A57.out).mono ?_); rintro e w71 ⟨rfl, hb⟩; have n0_ := Aside0.mk (bB3 BK152.out hb); have n1_ := Aside0.mk (bB3 BK159.out hb); have n2_ := Aside0.mk (bS3 HB.out hb); clear BK152; clear BK159; clear HB; have BK152 := n0_; have BK159 := n1_; have HB := n2_; clear n0_ n1_ n2_; (try clear hb); (try clear hb2); (try clear hk); (try clear hi); (try simp only [errW_none, errW_some])) | ((with_reducible refine gD (N := 9) rfl ?_); refine bE3 9 #[.bool false, .bool false, .int .i64 0, .int .i64 0, .int .i64 0, .int .i64 0, .int .i64 0, .int .u64 0] 25 ?hr ?_; (case hr => first | (go_simp; done) | (go_simp; rfl)); intro gb174 hg w72 hbox hb; have n0_ := Aside0.mk (bB3 BK152.out hb); have n1_ := Aside0.mk (bB3 BK159.out hb); have n2_ := Aside0.mk (bS3 HB.out hb); have n3_ := Aside0.mk (hbox); have n4_ := Aside0.mk ((bZ3 hg HB.out)); have n5_ := Aside0.mk ((bZ3 hg HB.out)); have n6_ := Aside0.mk ((bL3 hg BK152.out)); have n7_ := Aside0.mk ((bG3 hg BK152.out)); have n8_ := Aside0.mk ((bL3 hg BK159.out)); have n9_ := Aside0.mk ((bG3 hg BK159.out)); clear BK152; clear BK159; clear HB; have BK152 := n0_; have BK159 := n1_; have HB := n2_; have BK174 := n3_; have GW174 := n4_; have GE174 := n5_; have NB152_174 := n6_; have NB174_152 := n7_; have NB159_174 := n8_; have NB174_159 := n9_; clear n0_ n1_ n2_ n3_ n4_ n5_ n6_ n7_ n8_ n9_; clear hb hbox hg; have hnb73 := NB174_152.out; have hnc73 := NB152_174.out; have hnb74 := NB174_159.out; have hnc74 := NB159_174.out; have hcz75_0 : w72.cell? ⟨gb174, 0, none⟩ = some (.bool false) := (blk_cell BK174.out 0).trans rfl; have hcz75_1 : w72.cell? ⟨gb174, 1, none⟩ = some (.bool false) := (blk_cell BK174.out 1).trans rfl; have hcz75_2 : w72.cell? ⟨gb174, 2, none⟩ = some (.int .i64 0) := (blk_cell BK174.out 2).trans rfl; have hcz75_3 : w72.cell? ⟨gb174, 3, none⟩ = some (.int .i64 0) := (blk_cell BK174.out 3).trans rfl; have hcz75_4 : w72.cell? ⟨gb174, 4, none⟩ = some (.int .i64 0) := (blk_cell BK174.out 4).trans rfl; have hcz75_5 : w72.cell? ⟨gb174, 5, none⟩ = some (.int .i64 0) := (blk_cell BK174.out 5).trans rfl; have hcz75_6 : w72.cell? ⟨gb174, 6, none⟩ = some (.int .i64 0) := (blk_cell BK174.out 6).trans rfl; have hcz75_7 : w72.cell? ⟨gb174, 7, none⟩ = some (.int .u64 0) := (blk_cell BK174.out 7).trans rfl; have hfz75_0 := blk_frozen BK174.out 0; have hfz75_1 := blk_frozen BK174.out 1; have hfz75_2 := blk_frozen BK174.out 2; have hfz75_3 := blk_frozen BK174.out 3; have hfz75_4 := blk_frozen BK174.out 4; have hfz75_5 := blk_frozen BK174.out 5; have hfz75_6 := blk_frozen BK174.out 6; have hfz75_7 := blk_frozen BK174.out 7; have hcz76_0 : w72.cell? ⟨gb152, 0, none⟩ = some (.bool true) := (blk_cell BK152.out 0).trans rfl; have hcz76_1 : w72.cell? ⟨gb152, 1, none⟩ = some (.bool a1_1) := (blk_cell BK152.out 1).trans rfl; have hcz76_2 : w72.cell? ⟨gb152, 2, none⟩ = some (.int .i64 a1_2) := (blk_cell BK152.out 2).trans rfl; have hcz76_3 : w72.cell? ⟨gb152, 3, none⟩ = some (.int .i64 a1_3) := (blk_cell BK152.out 3).trans rfl; have hcz76_4 : w72.cell? ⟨gb152, 4, none⟩ = some (.int .i64 a1_4) := (blk_cell BK152.out 4).trans rfl; have hcz76_5 : w72.cell? ⟨gb152, 5, none⟩ = some (.int .i64 a1_5) := (blk_cell BK152.out 5).trans rfl; have hcz76_6 : w72.cell? ⟨gb152, 6, none⟩ = some (.int .i64 a1_6) := (blk_cell BK152.out 6).trans rfl; have hcz76_7 : w72.cell? ⟨gb152, 7, none⟩ = some (.int .u64 a1_7) := (blk_cell BK152.out 7).trans rfl; have hfz76_0 := blk_frozen BK152.out 0; have hfz76_1 := blk_frozen BK152.out 1; have hfz76_2 := blk_frozen BK152.out 2; have hfz76_3 := blk_frozen BK152.out 3; have hfz76_4 := blk_frozen BK152.out 4; have hfz76_5 := blk_frozen BK152.out 5; have hfz76_6 := blk_frozen BK152.out 6; have hfz76_7 := blk_frozen BK152.out 7)); try go_wp2_with (first | (go_at_call 34; (with_reducible refine (shape_Fold.calls a0 (IntKind.u64.wrap (-(Go.bits .or .u64 (Go.bits .or .u64 x8_33 (Go.bits .and .u64 (ji54) t154)) (Go.bits .and .u64 a1_7 t154)))) t163 t164 _ A56.out).mono ?_); rintro e w' ⟨rfl, ⟨nd, rfl⟩⟩; (try simp only [errW_none, errW_some]); (try first | exact ⟨rfl, _, World.drewN_drewN _ _ _⟩ | exact ⟨rfl, _, Eq.trans (World.drewN_drewN _ _ _) (congrArg (World.drewN _) (Nat.add_assoc _ _ _))⟩)) | (go_at_call 11; (with_reducible refine (codec_Split.calls kj33 a0 t163 t165 t166 t167 t168 t169 t170 t171 t172 t173 _ A57.out).mono ?_); rintro e w71 ⟨rfl, hb⟩; have n0_ := Aside0.mk (bB3 BK152.out hb); have n1_ := Aside0.mk (bB3 BK159.out hb); have n2_ := Aside0.mk (bS3 HB.out hb); clear BK152; clear BK159; clear HB; have BK152 := n0_; have BK159 := n1_; have HB := n2_; clear n0_ n1_ n2_; (try clear hb); (try clear hb2); (try clear hk); (try clear hi); (try simp only [errW_none, errW_some])) | ((with_reducible refine gD (N := 9) rfl ?_); refine bE3 9 #[.bool false, .bool false, .int .i64 0, .int .i64 0, .int .i64 0, .int .i64 0, .int .i64 0, .int .u64 0] 25 ?hr ?_; (case hr => first | (go_simp; done) | (go_simp; rfl)); intro gb174 hg w72 hbox hb; have n0_ := Aside0.mk (bB3 BK152.out hb); have n1_ := Aside0.mk (bB3 BK159.out hb); have n2_ := Aside0.mk (bS3 HB.out hb); have n3_ := Aside0.mk (hbox); have n4_ := Aside0.mk ((bZ3 hg HB.out)); have n5_ := Aside0.mk ((bZ3 hg HB.out)); have n6_ := Aside0.mk ((bL3 hg BK152.out)); have n7_ := Aside0.mk ((bG3 hg BK152.out)); have n8_ := Aside0.mk ((bL3 hg BK159.out)); have n9_ := Aside0.mk ((bG3 hg BK159.out)); clear BK152; clear BK159; clear HB; have BK152 := n0_; have BK159 := n1_; have HB := n2_; have BK174 := n3_; have GW174 := n4_; have GE174 := n5_; have NB152_174 := n6_; have NB174_152 := n7_; have NB159_174 := n8_; have NB174_159 := n9_; clear n0_ n1_ n2_ n3_ n4_ n5_ n6_ n7_ n8_ n9_; clear hb hbox hg; have hnb73 := NB174_152.out; have hnc73 := NB152_174.out; have hnb74 := NB174_159.out; have hnc74 := NB159_174.out; have hcz75_0 : w72.cell? ⟨gb174, 0, none⟩ = some (.bool false) := (blk_cell BK174.out 0).trans rfl; have hcz75_1 : w72.cell? ⟨gb174, 1, none⟩ = some (.bool false) := (blk_cell BK174.out 1).trans rfl; have hcz75_2 : w72.cell? ⟨gb174, 2, none⟩ = some (.int .i64 0) := (blk_cell BK174.out 2).trans rfl; have hcz75_3 : w72.cell? ⟨gb174, 3, none⟩ = some (.int .i64 0) := (blk_cell BK174.out 3).trans rfl; have hcz75_4 : w72.cell? ⟨gb174, 4, none⟩ = some (.int .i64 0) := (blk_cell BK174.out 4).trans rfl; have hcz75_5 : w72.cell? ⟨gb174, 5, none⟩ = some (.int .i64 0) := (blk_cell BK174.out 5).trans rfl; have hcz75_6 : w72.cell? ⟨gb174, 6, none⟩ = some (.int .i64 0) := (blk_cell BK174.out 6).trans rfl; have hcz75_7 : w72.cell? ⟨gb174, 7, none⟩ = some (.int .u64 0) := (blk_cell BK174.out 7).trans rfl; have hfz75_0 := blk_frozen BK174.out 0; have hfz75_1 := blk_frozen BK174.out 1; have hfz75_2 := blk_frozen BK174.out 2; have hfz75_3 := blk_frozen BK174.out 3; have hfz75_4 := blk_frozen BK174.out 4; have hfz75_5 := blk_frozen BK174.out 5; have hfz75_6 := blk_frozen BK174.out 6; have hfz75_7 := blk_frozen BK174.out 7; have hcz76_0 : w72.cell? ⟨gb152, 0, none⟩ = some (.bool true) := (blk_cell BK152.out 0).trans rfl; have hcz76_1 : w72.cell? ⟨gb152, 1, none⟩ = some (.bool a1_1) := (blk_cell BK152.out 1).trans rfl; have hcz76_2 : w72.cell? ⟨gb152, 2, none⟩ = some (.int .i64 a1_2) := (blk_cell BK152.out 2).trans rfl; have hcz76_3 : w72.cell? ⟨gb152, 3, none⟩ = some (.int .i64 a1_3) := (blk_cell BK152.out 3).trans rfl; have hcz76_4 : w72.cell? ⟨gb152, 4, none⟩ = some (.int .i64 a1_4) := (blk_cell BK152.out 4).trans rfl; have hcz76_5 : w72.cell? ⟨gb152, 5, none⟩ = some (.int .i64 a1_5) := (blk_cell BK152.out 5).trans rfl; have hcz76_6 : w72.cell? ⟨gb152, 6, none⟩ = some (.int .i64 a1_6) := (blk_cell BK152.out 6).trans rfl; have hcz76_7 : w72.cell? ⟨gb152, 7, none⟩ = some (.int .u64 a1_7) := (blk_cell BK152.out 7).trans rfl; have hfz76_0 := blk_frozen BK152.out 0; have hfz76_1 := blk_frozen BK152.out 1; have hfz76_2 := blk_frozen BK152.out 2; have hfz76_3 := blk_frozen BK152.out 3; have hfz76_4 := blk_frozen BK152.out 4; have hfz76_5 := blk_frozen BK152.out 5; have hfz76_6 := blk_frozen BK152.out 6; have hfz76_7 := blk_frozen BK152.out 7)))
                      go_ret2
                      exact ⟨by first | rfl | (simp [errW_none, errW_some] <;> rfl) | (simp only [← hji50, ← hji52, ← hji54]; first | rfl | (simp [errW_none, errW_some] <;> rfl)) | (simp [*, errW_none, errW_some] <;> rfl), by repeat (first | (with_reducible first | exact HB.out | apply pA | apply pN | apply p1 | refine pS ?_ GE152.out | refine pS ?_ GE159.out | refine pS ?_ GE174.out) | exact HB.out)⟩
                  · replace c55 := Bool.eq_false_iff.mpr c55
                    subst c55
                    have H1 : ((codec_Split.f kj33 a0 (Go.bits .or .u64 (Go.bits .or .u64 x8_33 (Go.bits .and .u64 (ji54) t154)) (Go.bits .and .u64 a1_7 t154))).bind fun bt175 => (if (!(bt175.1 == false) || (!(bt175.2.1 == a1_1) || (!(bt175.2.2.1 == a1_2) || (!(bt175.2.2.2.1 == a1_3) || (!(bt175.2.2.2.2.1 == a1_4) || (!(bt175.2.2.2.2.2.1 == a1_5) || (!(bt175.2.2.2.2.2.2.1 == a1_6) || (!(bt175.2.2.2.2.2.2.2.1 == a1_7))))))))) = true then (some (0, some 23)) else (some (Go.bits .or .u64 (Go.bits .or .u64 x8_33 (Go.bits .and .u64 (ji54) t154)) (Go.bits .and .u64 a1_7 t154), none)))) = some (r1, r2) := by rw [if_neg (show ¬ (false = true) by decide)] at H; exact H
                    clear H
                    have H := H1
                    clear H1
                    replace H := Option.bind_eq_some_iff.mp H
                    obtain ⟨⟨t175, t176, t177, t178, t179, t180, t181, t182, t183⟩, A770, H⟩ := H
                    replace H : (if (!(t175 == false) || (!(t176 == a1_1) || (!(t177 == a1_2) || (!(t178 == a1_3) || (!(t179 == a1_4) || (!(t180 == a1_5) || (!(t181 == a1_6) || (!(t182 == a1_7))))))))) = true then (some (0, some 23)) else (some (Go.bits .or .u64 (Go.bits .or .u64 x8_33 (Go.bits .and .u64 (ji54) t154)) (Go.bits .and .u64 a1_7 t154), none))) = some (r1, r2) := H
                    have A77 := Aside0.mk A770
                    clear A770
                    by_cases c78 : (!(t175 == false) || (!(t176 == a1_1) || (!(t177 == a1_2) || (!(t178 == a1_3) || (!(t179 == a1_4) || (!(t180 == a1_5) || (!(t181 == a1_6) || (!(t182 == a1_7))))))))) = true
                    · rw [if_pos c78] at H
                      have c78b0 : (!(t175 == false) || (!(t176 == a1_1) || (!(t177 == a1_2) || (!(t178 == a1_3) || (!(t179 == a1_4) || (!(t180 == a1_5) || (!(t181 == a1_6) || (!(t182 == a1_7))))))))) = true := c78
                      (try (have c78b9 := c78b0; simp only [beq_true, beq_false, Bool.not_not] at c78b9))
                      clear c78
                      simp only [Option.some.injEq, Prod.mk.injEq] at H
                      obtain ⟨rfl, rfl⟩ := H
                      have hnb79 := NB152_159.out
                      have hnc79 := NB159_152.out
                      have hcz80_0 : wc.cell? ⟨gb152, 0, none⟩ = some (.bool false) := (blk_cell BK152.out 0).trans rfl
                      have hcz80_1 : wc.cell? ⟨gb152, 1, none⟩ = some (.bool a1_1) := (blk_cell BK152.out 1).trans rfl
                      have hcz80_2 : wc.cell? ⟨gb152, 2, none⟩ = some (.int .i64 a1_2) := (blk_cell BK152.out 2).trans rfl
                      have hcz80_3 : wc.cell? ⟨gb152, 3, none⟩ = some (.int .i64 a1_3) := (blk_cell BK152.out 3).trans rfl
                      have hcz80_4 : wc.cell? ⟨gb152, 4, none⟩ = some (.int .i64 a1_4) := (blk_cell BK152.out 4).trans rfl
                      have hcz80_5 : wc.cell? ⟨gb152, 5, none⟩ = some (.int .i64 a1_5) := (blk_cell BK152.out 5).trans rfl
                      have hcz80_6 : wc.cell? ⟨gb152, 6, none⟩ = some (.int .i64 a1_6) := (blk_cell BK152.out 6).trans rfl
                      have hcz80_7 : wc.cell? ⟨gb152, 7, none⟩ = some (.int .u64 a1_7) := (blk_cell BK152.out 7).trans rfl
                      have hfz80_0 := blk_frozen BK152.out 0
                      have hfz80_1 := blk_frozen BK152.out 1
                      have hfz80_2 := blk_frozen BK152.out 2
                      have hfz80_3 := blk_frozen BK152.out 3
                      have hfz80_4 := blk_frozen BK152.out 4
                      have hfz80_5 := blk_frozen BK152.out 5
                      have hfz80_6 := blk_frozen BK152.out 6
                      have hfz80_7 := blk_frozen BK152.out 7
                      have hcz81_0 : wc.cell? ⟨gb159, 0, none⟩ = some (.int .i64 t153) := (blk_cell BK159.out 0).trans rfl
                      have hcz81_1 : wc.cell? ⟨gb159, 1, none⟩ = some (.int .u64 t154) := (blk_cell BK159.out 1).trans rfl
                      have hcz81_2 : wc.cell? ⟨gb159, 2, none⟩ = some (.int .u64 t155) := (blk_cell BK159.out 2).trans rfl
                      have hcz81_3 : wc.cell? ⟨gb159, 3, none⟩ = some (.int .u64 t156) := (blk_cell BK159.out 3).trans rfl
                      have hcz81_4 : wc.cell? ⟨gb159, 4, none⟩ = some (.int .i64 t157) := (blk_cell BK159.out 4).trans rfl
                      have hfz81_0 := blk_frozen BK159.out 0
                      have hfz81_1 := blk_frozen BK159.out 1
                      have hfz81_2 := blk_frozen BK159.out 2
                      have hfz81_3 := blk_frozen BK159.out 3
                      have hfz81_4 := blk_frozen BK159.out 4
                      go_wp2_with (first | (go_at_call 11; (with_reducible refine (codec_Split.calls kj33 a0 (Go.bits .or .u64 (Go.bits .or .u64 x8_33 (Go.bits .and .u64 (ji54) t154)) (Go.bits .and .u64 a1_7 t154)) t175 t176 t177 t178 t179 t180 t181 t182 t183 _ A77.out).mono ?_); rintro e w82 ⟨rfl, hb⟩; have n0_ := Aside0.mk (bB3 BK152.out hb); have n1_ := Aside0.mk (bB3 BK159.out hb); have n2_ := Aside0.mk (bS3 HB.out hb); clear BK152; clear BK159; clear HB; have BK152 := n0_; have BK159 := n1_; have HB := n2_; clear n0_ n1_ n2_; (try clear hb); (try clear hb2); (try clear hk); (try clear hi); (try simp only [errW_none, errW_some])) | ((with_reducible refine gD (N := 9) rfl ?_); refine bE3 9 #[.bool false, .bool false, .int .i64 0, .int .i64 0, .int .i64 0, .int .i64 0, .int .i64 0, .int .u64 0] 25 ?hr ?_; (case hr => first | (go_simp; done) | (go_simp; rfl)); intro gb184 hg w83 hbox hb; have n0_ := Aside0.mk (bB3 BK152.out hb); have n1_ := Aside0.mk (bB3 BK159.out hb); have n2_ := Aside0.mk (bS3 HB.out hb); have n3_ := Aside0.mk (hbox); have n4_ := Aside0.mk ((bZ3 hg HB.out)); have n5_ := Aside0.mk ((bZ3 hg HB.out)); have n6_ := Aside0.mk ((bL3 hg BK152.out)); have n7_ := Aside0.mk ((bG3 hg BK152.out)); have n8_ := Aside0.mk ((bL3 hg BK159.out)); have n9_ := Aside0.mk ((bG3 hg BK159.out)); clear BK152; clear BK159; clear HB; have BK152 := n0_; have BK159 := n1_; have HB := n2_; have BK184 := n3_; have GW184 := n4_; have GE184 := n5_; have NB152_184 := n6_; have NB184_152 := n7_; have NB159_184 := n8_; have NB184_159 := n9_; clear n0_ n1_ n2_ n3_ n4_ n5_ n6_ n7_ n8_ n9_; clear hb hbox hg; have hnb84 := NB184_152.out; have hnc84 := NB152_184.out; have hnb85 := NB184_159.out; have hnc85 := NB159_184.out; have hcz86_0 : w83.cell? ⟨gb184, 0, none⟩ = some (.bool false) := (blk_cell BK184.out 0).trans rfl; have hcz86_1 : w83.cell? ⟨gb184, 1, none⟩ = some (.bool false) := (blk_cell BK184.out 1).trans rfl; have hcz86_2 : w83.cell? ⟨gb184, 2, none⟩ = some (.int .i64 0) := (blk_cell BK184.out 2).trans rfl; have hcz86_3 : w83.cell? ⟨gb184, 3, none⟩ = some (.int .i64 0) := (blk_cell BK184.out 3).trans rfl; have hcz86_4 : w83.cell? ⟨gb184, 4, none⟩ = some (.int .i64 0) := (blk_cell BK184.out 4).trans rfl; have hcz86_5 : w83.cell? ⟨gb184, 5, none⟩ = some (.int .i64 0) := (blk_cell BK184.out 5).trans rfl; have hcz86_6 : w83.cell? ⟨gb184, 6, none⟩ = some (.int .i64 0) := (blk_cell BK184.out 6).trans rfl; have hcz86_7 : w83.cell? ⟨gb184, 7, none⟩ = some (.int .u64 0) := (blk_cell BK184.out 7).trans rfl; have hfz86_0 := blk_frozen BK184.out 0; have hfz86_1 := blk_frozen BK184.out 1; have hfz86_2 := blk_frozen BK184.out 2; have hfz86_3 := blk_frozen BK184.out 3; have hfz86_4 := blk_frozen BK184.out 4; have hfz86_5 := blk_frozen BK184.out 5; have hfz86_6 := blk_frozen BK184.out 6; have hfz86_7 := blk_frozen BK184.out 7; have hcz87_0 : w83.cell? ⟨gb152, 0, none⟩ = some (.bool false) := (blk_cell BK152.out 0).trans rfl; have hcz87_1 : w83.cell? ⟨gb152, 1, none⟩ = some (.bool a1_1) := (blk_cell BK152.out 1).trans rfl; have hcz87_2 : w83.cell? ⟨gb152, 2, none⟩ = some (.int .i64 a1_2) := (blk_cell BK152.out 2).trans rfl; have hcz87_3 : w83.cell? ⟨gb152, 3, none⟩ = some (.int .i64 a1_3) := (blk_cell BK152.out 3).trans rfl; have hcz87_4 : w83.cell? ⟨gb152, 4, none⟩ = some (.int .i64 a1_4) := (blk_cell BK152.out 4).trans rfl; have hcz87_5 : w83.cell? ⟨gb152, 5, none⟩ = some (.int .i64 a1_5) := (blk_cell BK152.out 5).trans rfl; have hcz87_6 : w83.cell? ⟨gb152, 6, none⟩ = some (.int .i64 a1_6) := (blk_cell BK152.out 6).trans rfl; have hcz87_7 : w83.cell? ⟨gb152, 7, none⟩ = some (.int .u64 a1_7) := (blk_cell BK152.out 7).trans rfl; have hfz87_0 := blk_frozen BK152.out 0; have hfz87_1 := blk_frozen BK152.out 1; have hfz87_2 := blk_frozen BK152.out 2; have hfz87_3 := blk_frozen BK152.out 3; have hfz87_4 := blk_frozen BK152.out 4; have hfz87_5 := blk_frozen BK152.out 5; have hfz87_6 := blk_frozen BK152.out 6; have hfz87_7 := blk_frozen BK152.out 7))
                      repeat (go_quiet (first | (go_at_call 11; (with_reducible refine (codec_Split.calls kj33 a0 (Go.bits .or .u64 (Go.bits .or .u64 x8_33 (Go.bits .and .u64 (ji54) t154)) (Go.bits .and .u64 a1_7 t154)) t175 t176 t177 t178 t179 t180 t181 t182 t183 _ A77.out).mono ?_); rintro e w82 ⟨rfl, hb⟩; have n0_ := Aside0.mk (bB3 BK152.out hb); have n1_ := Aside0.mk (bB3 BK159.out hb); have n2_ := Aside0.mk (bS3 HB.out hb); clear BK152; clear BK159; clear HB; have BK152 := n0_; have BK159 := n1_; have HB := n2_; clear n0_ n1_ n2_; (try clear hb); (try clear hb2); (try clear hk); (try clear hi); (try simp only [errW_none, errW_some])) | ((with_reducible refine gD (N := 9) rfl ?_); refine bE3 9 #[.bool false, .bool false, .int .i64 0, .int .i64 0, .int .i64 0, .int .i64 0, .int .i64 0, .int .u64 0] 25 ?hr ?_; (case hr => first | (go_simp; done) | (go_simp; rfl)); intro gb184 hg w83 hbox hb; have n0_ := Aside0.mk (bB3 BK152.out hb); have n1_ := Aside0.mk (bB3 BK159.out hb); have n2_ := Aside0.mk (bS3 HB.out hb); have n3_ := Aside0.mk (hbox); have n4_ := Aside0.mk ((bZ3 hg HB.out)); have n5_ := Aside0.mk ((bZ3 hg HB.out)); have n6_ := Aside0.mk ((bL3 hg BK152.out)); have n7_ := Aside0.mk ((bG3 hg BK152.out)); have n8_ := Aside0.mk ((bL3 hg BK159.out)); have n9_ := Aside0.mk ((bG3 hg BK159.out)); clear BK152; clear BK159; clear HB; have BK152 := n0_; have BK159 := n1_; have HB := n2_; have BK184 := n3_; have GW184 := n4_; have GE184 := n5_; have NB152_184 := n6_; have NB184_152 := n7_; have NB159_184 := n8_; have NB184_159 := n9_; clear n0_ n1_ n2_ n3_ n4_ n5_ n6_ n7_ n8_ n9_; clear hb hbox hg; have hnb84 := NB184_152.out; have hnc84 := NB152_184.out; have hnb85 := NB184_159.out; have hnc85 := NB159_184.out; have hcz86_0 : w83.cell? ⟨gb184, 0, none⟩ = some (.bool false) := (blk_cell BK184.out 0).trans rfl; have hcz86_1 : w83.cell? ⟨gb184, 1, none⟩ = some (.bool false) := (blk_cell BK184.out 1).trans rfl; have hcz86_2 : w83.cell? ⟨gb184, 2, none⟩ = some (.int .i64 0) := (blk_cell BK184.out 2).trans rfl; have hcz86_3 : w83.cell? ⟨gb184, 3, none⟩ = some (.int .i64 0) := (blk_cell BK184.out 3).trans rfl; have hcz86_4 : w83.cell? ⟨gb184, 4, none⟩ = some (.int .i64 0) := (blk_cell BK184.out 4).trans rfl; have hcz86_5 : w83.cell? ⟨gb184, 5, none⟩ = some (.int .i64 0) := (blk_cell BK184.out 5).trans rfl; have hcz86_6 : w83.cell? ⟨gb184, 6, none⟩ = some (.int .i64 0) := (blk_cell BK184.out 6).trans rfl; have hcz86_7 : w83.cell? ⟨gb184, 7, none⟩ = some (.int .u64 0) := (blk_cell BK184.out 7).trans rfl; have hfz86_0 := blk_frozen BK184.out 0; have hfz86_1 := blk_frozen BK184.out 1; have hfz86_2 := blk_frozen BK184.out 2; have hfz86_3 := blk_frozen BK184.out 3; have hfz86_4 := blk_frozen BK184.out 4; have hfz86_5 := blk_frozen BK184.out 5; have hfz86_6 := blk_frozen BK184.out 6; have hfz86_7 := blk_frozen BK184.out 7; have hcz87_0 : w83.cell? ⟨gb152, 0, none⟩ = some (.bool false) := (blk_cell BK152.out 0).trans rfl; have hcz87_1 : w83.cell? ⟨gb152, 1, none⟩ = some (.bool a1_1) := (blk_cell BK152.out 1).trans rfl; have hcz87_2 : w83.cell? ⟨gb152, 2, none⟩ = some (.int .i64 a1_2) := (blk_cell BK152.out 2).trans rfl; have hcz87_3 : w83.cell? ⟨gb152, 3, none⟩ = some (.int .i64 a1_3) := (blk_cell BK152.out 3).trans rfl; have hcz87_4 : w83.cell? ⟨gb152, 4, none⟩ = some (.int .i64 a1_4) := (blk_cell BK152.out 4).trans rfl; have hcz87_5 : w83.cell? ⟨gb152, 5, none⟩ = some (.int .i64 a1_5) := (blk_cell BK152.out 5).trans rfl; have hcz87_6 : w83.cell? ⟨gb152, 6, none⟩ = some (.int .i64 a1_6) := (blk_cell BK152.out 6).trans rfl; have hcz87_7 : w83.cell? ⟨gb152, 7, none⟩ = some (.int .u64 a1_7) := (blk_cell BK152.out 7).trans rfl; have hfz87_0 := blk_frozen BK152.out 0; have hfz87_1 := blk_frozen BK152.out 1; have hfz87_2 := blk_frozen BK152.out 2; have hfz87_3 := blk_frozen BK152.out 3; have hfz87_4 := blk_frozen BK152.out 4; have hfz87_5 := blk_frozen BK152.out 5; have hfz87_6 := blk_frozen BK152.out 6; have hfz87_7 := blk_frozen BK152.out 7)); try go_wp2_with (first | (go_at_call 11; (with_reducible refine (codec_Split.calls kj33 a0 (Go.bits .or .u64 (Go.bits .or .u64 x8_33 (Go.bits .and .u64 (ji54) t154)) (Go.bits .and .u64 a1_7 t154)) t175 t176 t177 t178 t179 t180 t181 t182 t183 _ A77.out).mono ?_); rintro e w82 ⟨rfl, hb⟩; have n0_ := Aside0.mk (bB3 BK152.out hb); have n1_ := Aside0.mk (bB3 BK159.out hb); have n2_ := Aside0.mk (bS3 HB.out hb); clear BK152; clear BK159; clear HB; have BK152 := n0_; have BK159 := n1_; have HB := n2_; clear n0_ n1_ n2_; (try clear hb); (try clear hb2); (try clear hk); (try clear hi); (try simp only [errW_none, errW_some])) | ((with_reducible refine gD (N := 9) rfl ?_); refine bE3 9 #[.bool false, .bool false, .int .i64 0, .int .i64 0, .int .i64 0, .int .i64 0, .int .i64 0, .int .u64 0] 25 ?hr ?_; (case hr => first | (go_simp; done) | (go_simp; rfl)); intro gb184 hg w83 hbox hb; have n0_ := Aside0.mk (bB3 BK152.out hb); have n1_ := Aside0.mk (bB3 BK159.out hb); have n2_ := Aside0.mk (bS3 HB.out hb); have n3_ := Aside0.mk (hbox); have n4_ := Aside0.mk ((bZ3 hg HB.out)); have n5_ := Aside0.mk ((bZ3 hg HB.out)); have n6_ := Aside0.mk ((bL3 hg BK152.out)); have n7_ := Aside0.mk ((bG3 hg BK152.out)); have n8_ := Aside0.mk ((bL3 hg BK159.out)); have n9_ := Aside0.mk ((bG3 hg BK159.out)); clear BK152; clear BK159; clear HB; have BK152 := n0_; have BK159 := n1_; have HB := n2_; have BK184 := n3_; have GW184 := n4_; have GE184 := n5_; have NB152_184 := n6_; have NB184_152 := n7_; have NB159_184 := n8_; have NB184_159 := n9_; clear n0_ n1_ n2_ n3_ n4_ n5_ n6_ n7_ n8_ n9_; clear hb hbox hg; have hnb84 := NB184_152.out; have hnc84 := NB152_184.out; have hnb85 := NB184_159.out; have hnc85 := NB159_184.out; have hcz86_0 : w83.cell? ⟨gb184, 0, none⟩ = some (.bool false) := (blk_cell BK184.out 0).trans rfl; have hcz86_1 : w83.cell? ⟨gb184, 1, none⟩ = some (.bool false) := (blk_cell BK184.out 1).trans rfl; have hcz86_2 : w83.cell? ⟨gb184, 2, none⟩ = some (.int .i64 0) := (blk_cell BK184.out 2).trans rfl; have hcz86_3 : w83.cell? ⟨gb184, 3, none⟩ = some (.int .i64 0) := (blk_cell BK184.out 3).trans rfl; have hcz86_4 : w83.cell? ⟨gb184, 4, none⟩ = some (.int .i64 0) := (blk_cell BK184.out 4).trans rfl; have hcz86_5 : w83.cell? ⟨gb184, 5, none⟩ = some (.int .i64 0) := (blk_cell BK184.out 5).trans rfl; have hcz86_6 : w83.cell? ⟨gb184, 6, none⟩ = some (.int .i64 0) := (blk_cell BK184.out 6).trans rfl; have hcz86_7 : w83.cell? ⟨gb184, 7, none⟩ = some (.int .u64 0) := (blk_cell BK184.out 7).trans rfl; have hfz86_0 := blk_frozen BK184.out 0; have hfz86_1 := blk_frozen BK184.out 1; have hfz86_2 := blk_frozen BK184.out 2; have hfz86_3 := blk_frozen BK184.out 3; have hfz86_4 := blk_frozen BK184.out 4; have hfz86_5 := blk_frozen BK184.out 5; have hfz86_6 := blk_frozen BK184.out 6; have hfz86_7 := blk_frozen BK184.out 7; have hcz87_0 : w83.cell? ⟨gb152, 0, none⟩ = some (.bool false) := (blk_cell BK152.out 0).trans rfl; have hcz87_1 : w83.cell? ⟨gb152, 1, none⟩ = some (.bool a1_1) := (blk_cell BK152.out 1).trans rfl; have hcz87_2 : w83.cell? ⟨gb152, 2, none⟩ = some (.int .i64 a1_2) := (blk_cell BK152.out 2).trans rfl; have hcz87_3 : w83.cell? ⟨gb152, 3, none⟩ = some (.int .i64 a1_3) := (blk_cell BK152.out 3).trans rfl; have hcz87_4 : w83.cell? ⟨gb152, 4, none⟩ = some (.int .i64 a1_4) := (blk_cell BK152.out 4).trans rfl; have hcz87_5 : w83.cell? ⟨gb152, 5, none⟩ = some (.int .i64 a1_5) := (blk_cell BK152.out 5).trans rfl; have hcz87_6 : w83.cell? ⟨gb152, 6, none⟩ = some (.int .i64 a1_6) := (blk_cell BK152.out 6).trans rfl; have hcz87_7 : w83.cell? ⟨gb152, 7, none⟩ = some (.int .u64 a1_7) := (blk_cell BK152.out 7).trans rfl; have hfz87_0 := blk_frozen BK152.out 0; have hfz87_1 := blk_frozen BK152.out 1; have hfz87_2 := blk_frozen BK152.out 2; have hfz87_3 := blk_frozen BK152.out 3; have hfz87_4 := blk_frozen BK152.out 4; have hfz87_5 := blk_frozen BK152.out 5; have hfz87_6 := blk_frozen BK152.out 6; have hfz87_7 := blk_frozen BK152.out 7)))
                      go_ret2
                      exact ⟨by first | rfl | (simp [errW_none, errW_some] <;> rfl) | (simp only [← hji50, ← hji52, ← hji54]; first | rfl | (simp [errW_none, errW_some] <;> rfl)) | (simp [*, errW_none, errW_some] <;> rfl), by repeat (first | (with_reducible first | exact HB.out | apply pA | apply pN | apply p1 | refine pS ?_ GE152.out | refine pS ?_ GE159.out | refine pS ?_ GE184.out) | exact HB.out)⟩
                    · rw [if_neg c78] at H
                      have c78b0 : (!(t175 == false) || (!(t176 == a1_1) || (!(t177 == a1_2) || (!(t178 == a1_3) || (!(t179 == a1_4) || (!(t180 == a1_5) || (!(t181 == a1_6) || (!(t182 == a1_7))))))))) = false := by simpa using c78
                      (try (have c78b9 := c78b0; simp only [beq_true, beq_false, Bool.not_not] at c78b9))
                      clear c78
                      simp only [Option.some.injEq, Prod.mk.injEq] at H
                      obtain ⟨rfl, rfl⟩ := H
                      have hnb88 := NB152_159.out
                      have hnc88 := NB159_152.out
                      have hcz89_0 : wc.cell? ⟨gb152, 0, none⟩ = some (.bool false) := (blk_cell BK152.out 0).trans rfl
                      have hcz89_1 : wc.cell? ⟨gb152, 1, none⟩ = some (.bool a1_1) := (blk_cell BK152.out 1).trans rfl
                      have hcz89_2 : wc.cell? ⟨gb152, 2, none⟩ = some (.int .i64 a1_2) := (blk_cell BK152.out 2).trans rfl
                      have hcz89_3 : wc.cell? ⟨gb152, 3, none⟩ = some (.int .i64 a1_3) := (blk_cell BK152.out 3).trans rfl
                      have hcz89_4 : wc.cell? ⟨gb152, 4, none⟩ = some (.int .i64 a1_4) := (blk_cell BK152.out 4).trans rfl
                      have hcz89_5 : wc.cell? ⟨gb152, 5, none⟩ = some (.int .i64 a1_5) := (blk_cell BK152.out 5).trans rfl
                      have hcz89_6 : wc.cell? ⟨gb152, 6, none⟩ = some (.int .i64 a1_6) := (blk_cell BK152.out 6).trans rfl
                      have hcz89_7 : wc.cell? ⟨gb152, 7, none⟩ = some (.int .u64 a1_7) := (blk_cell BK152.out 7).trans rfl
                      have hfz89_0 := blk_frozen BK152.out 0
                      have hfz89_1 := blk_frozen BK152.out 1
                      have hfz89_2 := blk_frozen BK152.out 2
                      have hfz89_3 := blk_frozen BK152.out 3
                      have hfz89_4 := blk_frozen BK152.out 4
                      have hfz89_5 := blk_frozen BK152.out 5
                      have hfz89_6 := blk_frozen BK152.out 6
                      have hfz89_7 := blk_frozen BK152.out 7
                      have hcz90_0 : wc.cell? ⟨gb159, 0, none⟩ = some (.int .i64 t153) := (blk_cell BK159.out 0).trans rfl
                      have hcz90_1 : wc.cell? ⟨gb159, 1, none⟩ = some (.int .u64 t154) := (blk_cell BK159.out 1).trans rfl
                      have hcz90_2 : wc.cell? ⟨gb159, 2, none⟩ = some (.int .u64 t155) := (blk_cell BK159.out 2).trans rfl
                      have hcz90_3 : wc.cell? ⟨gb159, 3, none⟩ = some (.int .u64 t156) := (blk_cell BK159.out 3).trans rfl
                      have hcz90_4 : wc.cell? ⟨gb159, 4, none⟩ = some (.int .i64 t157) := (blk_cell BK159.out 4).trans rfl
                      have hfz90_0 := blk_frozen BK159.out 0
                      have hfz90_1 := blk_frozen BK159.out 1
                      have hfz90_2 := blk_frozen BK159.out 2
                      have hfz90_3 := blk_frozen BK159.out 3
                      have hfz90_4 := blk_frozen BK159.out 4
                      go_wp2_with (first | (go_at_call 11; (with_reducible refine (codec_Split.calls kj33 a0 (Go.bits .or .u64 (Go.bits .or .u64 x8_33 (Go.bits .and .u64 (ji54) t154)) (Go.bits .and .u64 a1_7 t154)) t175 t176 t177 t178 t179 t180 t181 t182 t183 _ A77.out).mono ?_); rintro e w91 ⟨rfl, hb⟩; have n0_ := Aside0.mk (bB3 BK152.out hb); have n1_ := Aside0.mk (bB3 BK159.out hb); have n2_ := Aside0.mk (bS3 HB.out hb); clear BK152; clear BK159; clear HB; have BK152 := n0_; have BK159 := n1_; have HB := n2_; clear n0_ n1_ n2_; (try clear hb); (try clear hb2); (try clear hk); (try clear hi); (try simp only [errW_none, errW_some])) | ((with_reducible refine gD (N := 9) rfl ?_); refine bE3 9 #[.bool false, .bool false, .int .i64 0, .int .i64 0, .int .i64 0, .int .i64 0, .int .i64 0, .int .u64 0] 25 ?hr ?_; (case hr => first | (go_simp; done) | (go_simp; rfl)); intro gb184 hg w92 hbox hb; have n0_ := Aside0.mk (bB3 BK152.out hb); have n1_ := Aside0.mk (bB3 BK159.out hb); have n2_ := Aside0.mk (bS3 HB.out hb); have n3_ := Aside0.mk (hbox); have n4_ := Aside0.mk ((bZ3 hg HB.out)); have n5_ := Aside0.mk ((bZ3 hg HB.out)); have n6_ := Aside0.mk ((bL3 hg BK152.out)); have n7_ := Aside0.mk ((bG3 hg BK152.out)); have n8_ := Aside0.mk ((bL3 hg BK159.out)); have n9_ := Aside0.mk ((bG3 hg BK159.out)); clear BK152; clear BK159; clear HB; have BK152 := n0_; have BK159 := n1_; have HB := n2_; have BK184 := n3_; have GW184 := n4_; have GE184 := n5_; have NB152_184 := n6_; have NB184_152 := n7_; have NB159_184 := n8_; have NB184_159 := n9_; clear n0_ n1_ n2_ n3_ n4_ n5_ n6_ n7_ n8_ n9_; clear hb hbox hg; have hnb93 := NB184_152.out; have hnc93 := NB152_184.out; have hnb94 := NB184_159.out; have hnc94 := NB159_184.out; have hcz95_0 : w92.cell? ⟨gb184, 0, none⟩ = some (.bool false) := (blk_cell BK184.out 0).trans rfl; have hcz95_1 : w92.cell? ⟨gb184, 1, none⟩ = some (.bool false) := (blk_cell BK184.out 1).trans rfl; have hcz95_2 : w92.cell? ⟨gb184, 2, none⟩ = some (.int .i64 0) := (blk_cell BK184.out 2).trans rfl; have hcz95_3 : w92.cell? ⟨gb184, 3, none⟩ = some (.int .i64 0) := (blk_cell BK184.out 3).trans rfl; have hcz95_4 : w92.cell? ⟨gb184, 4, none⟩ = some (.int .i64 0) := (blk_cell BK184.out 4).trans rfl; have hcz95_5 : w92.cell? ⟨gb184, 5, none⟩ = some (.int .i64 0) := (blk_cell BK184.out 5).trans rfl; have hcz95_6 : w92.cell? ⟨gb184, 6, none⟩ = some (.int .i64 0) := (blk_cell BK184.out 6).trans rfl; have hcz95_7 : w92.cell? ⟨gb184, 7, none⟩ = some (.int .u64 0) := (blk_cell BK184.out 7).trans rfl; have hfz95_0 := blk_frozen BK184.out 0; have hfz95_1 := blk_frozen BK184.out 1; have hfz95_2 := blk_frozen BK184.out 2; have hfz95_3 := blk_frozen BK184.out 3; have hfz95_4 := blk_frozen BK184.out 4; have hfz95_5 := blk_frozen BK184.out 5; have hfz95_6 := blk_frozen BK184.out 6; have hfz95_7 := blk_frozen BK184.out 7; have hcz96_0 : w92.cell? ⟨gb152, 0, none⟩ = some (.bool false) := (blk_cell BK152.out 0).trans rfl; have hcz96_1 : w92.cell? ⟨gb152, 1, none⟩ = some (.bool a1_1) := (blk_cell BK152.out 1).trans rfl; have hcz96_2 : w92.cell? ⟨gb152, 2, none⟩ = some (.int .i64 a1_2) := (blk_cell BK152.out 2).trans rfl; have hcz96_3 : w92.cell? ⟨gb152, 3, none⟩ = some (.int .i64 a1_3) := (blk_cell BK152.out 3).trans rfl; have hcz96_4 : w92.cell? ⟨gb152, 4, none⟩ = some (.int .i64 a1_4) := (blk_cell BK152.out 4).trans rfl; have hcz96_5 : w92.cell? ⟨gb152, 5, none⟩ = some (.int .i64 a1_5) := (blk_cell BK152.out 5).trans rfl; have hcz96_6 : w92.cell? ⟨gb152, 6, none⟩ = some (.int .i64 a1_6) := (blk_cell BK152.out 6).trans rfl; have hcz96_7 : w92.cell? ⟨gb152, 7, none⟩ = some (.int .u64 a1_7) := (blk_cell BK152.out 7).trans rfl; have hfz96_0 := blk_frozen BK152.out 0; have hfz96_1 := blk_frozen BK152.out 1; have hfz96_2 := blk_frozen BK152.out 2; have hfz96_3 := blk_frozen BK152.out 3; have hfz96_4 := blk_frozen BK152.out 4; have hfz96_5 := blk_frozen BK152.out 5; have hfz96_6 := blk_frozen BK152.out 6; have hfz96_7 := blk_frozen BK152.out 7))
                      repeat (go_quiet (first | (go_at_call 11; (with_reducible refine (codec_Split.calls kj33 a0 (Go.bits .or .u64 (Go.bits .or .u64 x8_33 (Go.bits .and .u64 (ji54) t154)) (Go.bits .and .u64 a1_7 t154)) t175 t176 t177 t178 t179 t180 t181 t182 t183 _ A77.out).mono ?_); rintro e w91 ⟨rfl, hb⟩; have n0_ := Aside0.mk (bB3 BK152.out hb); have n1_ := Aside0.mk (bB3 BK159.out hb); have n2_ := Aside0.mk (bS3 HB.out hb); clear BK152; clear BK159; clear HB; have BK152 := n0_; have BK159 := n1_; have HB := n2_; clear n0_ n1_ n2_; (try clear hb); (try clear hb2); (try clear hk); (try clear hi); (try simp only [errW_none, errW_some])) | ((with_reducible refine gD (N := 9) rfl ?_); refine bE3 9 #[.bool false, .bool false, .int .i64 0, .int .i64 0, .int .i64 0, .int .i64 0, .int .i64 0, .int .u64 0] 25 ?hr ?_; (case hr => first | (go_simp; done) | (go_simp; rfl)); intro gb184 hg w92 hbox hb; have n0_ := Aside0.mk (bB3 BK152.out hb); have n1_ := Aside0.mk (bB3 BK159.out hb); have n2_ := Aside0.mk (bS3 HB.out hb); have n3_ := Aside0.mk (hbox); have n4_ := Aside0.mk ((bZ3 hg HB.out)); have n5_ := Aside0.mk ((bZ3 hg HB.out)); have n6_ := Aside0.mk ((bL3 hg BK152.out)); have n7_ := Aside0.mk ((bG3 hg BK152.out)); have n8_ := Aside0.mk ((bL3 hg BK159.out)); have n9_ := Aside0.mk ((bG3 hg BK159.out)); clear BK152; clear BK159; clear HB; have BK152 := n0_; have BK159 := n1_; have HB := n2_; have BK184 := n3_; have GW184 := n4_; have GE184 := n5_; have NB152_184 := n6_; have NB184_152 := n7_; have NB159_184 := n8_; have NB184_159 := n9_; clear n0_ n1_ n2_ n3_ n4_ n5_ n6_ n7_ n8_ n9_; clear hb hbox hg; have hnb93 := NB184_152.out; have hnc93 := NB152_184.out; have hnb94 := NB184_159.out; have hnc94 := NB159_184.out; have hcz95_0 : w92.cell? ⟨gb184, 0, none⟩ = some (.bool false) := (blk_cell BK184.out 0).trans rfl; have hcz95_1 : w92.cell? ⟨gb184, 1, none⟩ = some (.bool false) := (blk_cell BK184.out 1).trans rfl; have hcz95_2 : w92.cell? ⟨gb184, 2, none⟩ = some (.int .i64 0) := (blk_cell BK184.out 2).trans rfl; have hcz95_3 : w92.cell? ⟨gb184, 3, none⟩ = some (.int .i64 0) := (blk_cell BK184.out 3).trans rfl; have hcz95_4 : w92.cell? ⟨gb184, 4, none⟩ = some (.int .i64 0) := (blk_cell BK184.out 4).trans rfl; have hcz95_5 : w92.cell? ⟨gb184, 5, none⟩ = some (.int .i64 0) := (blk_cell BK184.out 5).trans rfl; have hcz95_6 : w92.cell? ⟨gb184, 6, none⟩ = some (.int .i64 0) := (blk_cell BK184.out 6).trans rfl; have hcz95_7 : w92.cell? ⟨gb184, 7, none⟩ = some (.int .u64 0) := (blk_cell BK184.out 7).trans rfl; have hfz95_0 := blk_frozen BK184.out 0; have hfz95_1 := blk_frozen BK184.out 1; have hfz95_2 := blk_frozen BK184.out 2; have hfz95_3 := blk_frozen BK184.out 3; have hfz95_4 := blk_frozen BK184.out 4; have hfz95_5 := blk_frozen BK184.out 5; have hfz95_6 := blk_frozen BK184.out 6; have hfz95_7 := blk_frozen BK184.out 7; have hcz96_0 : w92.cell? ⟨gb152, 0, none⟩ = some (.bool false) := (blk_cell BK152.out 0).trans rfl; have hcz96_1 : w92.cell? ⟨gb152, 1, none⟩ = some (.bool a1_1) := (blk_cell BK152.out 1).trans rfl; have hcz96_2 : w92.cell? ⟨gb152, 2, none⟩ = some (.int .i64 a1_2) := (blk_cell BK152.out 2).trans rfl; have hcz96_3 : w92.cell? ⟨gb152, 3, none⟩ = some (.int .i64 a1_3) := (blk_cell BK152.out 3).trans rfl; have hcz96_4 : w92.cell? ⟨gb152, 4, none⟩ = some (.int .i64 a1_4) := (blk_cell BK152.out 4).trans rfl; have hcz96_5 : w92.cell? ⟨gb152, 5, none⟩ = some (.int .i64 a1_5) := (blk_cell BK152.out 5).trans rfl; have hcz96_6 : w92.cell? ⟨gb152, 6, none⟩ = some (.int .i64 a1_6) := (blk_cell BK152.out 6).trans rfl; have hcz96_7 : w92.cell? ⟨gb152, 7, none⟩ = some (.int .u64 a1_7) := (blk_cell BK152.out 7).trans rfl; have hfz96_0 := blk_frozen BK152.out 0; have hfz96_1 := blk_frozen BK152.out 1; have hfz96_2 := blk_frozen BK152.out 2; have hfz96_3 := blk_frozen BK152.out 3; have hfz96_4 := blk_frozen BK152.out 4; have hfz96_5 := blk_frozen BK152.out 5; have hfz96_6 := blk_frozen BK152.out 6; have hfz96_7 := blk_frozen BK152.out 7)); try go_wp2_with (first | (go_at_call 11; (with_reducible refine (codec_Split.calls kj33 a0 (Go.bits .or .u64 (Go.bits .or .u64 x8_33 (Go.bits .and .u64 (ji54) t154)) (Go.bits .and .u64 a1_7 t154)) t175 t176 t177 t178 t179 t180 t181 t182 t183 _ A77.out).mono ?_); rintro e w91 ⟨rfl, hb⟩; have n0_ := Aside0.mk (bB3 BK152.out hb); have n1_ := Aside0.mk (bB3 BK159.out hb); have n2_ := Aside0.mk (bS3 HB.out hb); clear BK152; clear BK159; clear HB; have BK152 := n0_; have BK159 := n1_; have HB := n2_; clear n0_ n1_ n2_; (try clear hb); (try clear hb2); (try clear hk); (try clear hi); (try simp only [errW_none, errW_some])) | ((with_reducible refine gD (N := 9) rfl ?_); refine bE3 9 #[.bool false, .bool false, .int .i64 0, .int .i64 0, .int .i64 0, .int .i64 0, .int .i64 0, .int .u64 0] 25 ?hr ?_; (case hr => first | (go_simp; done) | (go_simp; rfl)); intro gb184 hg w92 hbox hb; have n0_ := Aside0.mk (bB3 BK152.out hb); have n1_ := Aside0.mk (bB3 BK159.out hb); have n2_ := Aside0.mk (bS3 HB.out hb); have n3_ := Aside0.mk (hbox); have n4_ := Aside0.mk ((bZ3 hg HB.out)); have n5_ := Aside0.mk ((bZ3 hg HB.out)); have n6_ := Aside0.mk ((bL3 hg BK152.out)); have n7_ := Aside0.mk ((bG3 hg BK152.out)); have n8_ := Aside0.mk ((bL3 hg BK159.out)); have n9_ := Aside0.mk ((bG3 hg BK159.out)); clear BK152; clear BK159; clear HB; have BK152 := n0_; have BK159 := n1_; have HB := n2_; have BK184 := n3_; have GW184 := n4_; have GE184 := n5_; have NB152_184 := n6_; have NB184_152 := n7_; have NB159_184 := n8_; have NB184_159 := n9_; clear n0_ n1_ n2_ n3_ n4_ n5_ n6_ n7_ n8_ n9_; clear hb hbox hg; have hnb93 := NB184_152.out; have hnc93 := NB152_184.out; have hnb94 := NB184_159.out; have hnc94 := NB159_184.out; have hcz95_0 : w92.cell? ⟨gb184, 0, none⟩ = some (.bool false) := (blk_cell BK184.out 0).trans rfl; have hcz95_1 : w92.cell? ⟨gb184, 1, none⟩ = some (.bool false) := (blk_cell BK184.out 1).trans rfl; have hcz95_2 : w92.cell? ⟨gb184, 2, none⟩ = some (.int .i64 0) := (blk_cell BK184.out 2).trans rfl; have hcz95_3 : w92.cell? ⟨gb184, 3, none⟩ = some (.int .i64 0) := (blk_cell BK184.out 3).trans rfl; have hcz95_4 : w92.cell? ⟨gb184, 4, none⟩ = some (.int .i64 0) := (blk_cell BK184.out 4).trans rfl; have hcz95_5 : w92.cell? ⟨gb184, 5, none⟩ = some (.int .i64 0) := (blk_cell BK184.out 5).trans rfl; have hcz95_6 : w92.cell? ⟨gb184, 6, none⟩ = some (.int .i64 0) := (blk_cell BK184.out 6).trans rfl; have hcz95_7 : w92.cell? ⟨gb184, 7, none⟩ = some (.int .u64 0) := (blk_cell BK184.out 7).trans rfl; have hfz95_0 := blk_frozen BK184.out 0; have hfz95_1 := blk_frozen BK184.out 1; have hfz95_2 := blk_frozen BK184.out 2; have hfz95_3 := blk_frozen BK184.out 3; have hfz95_4 := blk_frozen BK184.out 4; have hfz95_5 := blk_frozen BK184.out 5; have hfz95_6 := blk_frozen BK184.out 6; have hfz95_7 := blk_frozen BK184.out 7; have hcz96_0 : w92.cell? ⟨gb152, 0, none⟩ = some (.bool false) := (blk_cell BK152.out 0).trans rfl; have hcz96_1 : w92.cell? ⟨gb152, 1, none⟩ = some (.bool a1_1) := (blk_cell BK152.out 1).trans rfl; have hcz96_2 : w92.cell? ⟨gb152, 2, none⟩ = some (.int .i64 a1_2) := (blk_cell BK152.out 2).trans rfl; have hcz96_3 : w92.cell? ⟨gb152, 3, none⟩ = some (.int .i64 a1_3) := (blk_cell BK152.out 3).trans rfl; have hcz96_4 : w92.cell? ⟨gb152, 4, none⟩ = some (.int .i64 a1_4) := (blk_cell BK152.out 4).trans rfl; have hcz96_5 : w92.cell? ⟨gb152, 5, none⟩ = some (.int .i64 a1_5) := (blk_cell BK152.out 5).trans rfl; have hcz96_6 : w92.cell? ⟨gb152, 6, none⟩ = some (.int .i64 a1_6) := (blk_cell BK152.out 6).trans rfl; have hcz96_7 : w92.cell? ⟨gb152, 7, none⟩ = some (.int .u64 a1_7) := (blk_cell BK152.out 7).trans rfl; have hfz96_0 := blk_frozen BK152.out 0; have hfz96_1 := blk_frozen BK152.out 1; have hfz96_2 := blk_frozen BK152.out 2; have hfz96_3 := blk_frozen BK152.out 3; have hfz96_4 := blk_frozen BK152.out 4; have hfz96_5 := blk_frozen BK152.out 5; have hfz96_6 := blk_frozen BK152.out 6; have hfz96_7 := blk_frozen BK152.out 7)))
                      go_ret2
                      exact ⟨by first | rfl | (simp [errW_none, errW_some] <;> rfl) | (simp only [← hji50, ← hji52, ← hji54]; first | rfl | (simp [errW_none, errW_some] <;> rfl)) | (simp [*, errW_none, errW_some] <;> rfl), by repeat (first | (with_reducible first | exact HB.out | apply pA | apply pN | apply p1 | refine pS ?_ GE152.out | refine pS ?_ GE159.out | refine pS ?_ GE184.out) | exact HB.out)⟩
                · rw [if_neg c53] at H
                  exact absurd H (by simp)
              · rw [if_neg c51] at H
                exact absurd H (by simp)
  · have H1 : (some (0, some q160)) = some (r1, r2) := by rw [if_neg (show ¬ (some q160).isNone = true by simp)] at H; exact H
    clear H
    have H := H1
    clear H1
    try simp only [errW_none, errW_some]
    simp only [Option.some.injEq, Prod.mk.injEq] at H
    obtain ⟨rfl, rfl⟩ := H
    go_enter Try.func14, Try.ntmps14
    go_wp2_with (first | ((with_reducible refine gD (N := 3) rfl ?_); refine bE3 3 #[.bool a1_0, .bool a1_1, .int .i64 a1_2, .int .i64 a1_3, .int .i64 a1_4, .int .i64 a1_5, .int .i64 a1_6, .int .u64 a1_7] 25 ?hr ?_; (case hr => first | (go_simp; done) | (go_simp; rfl)); intro gb152 hg w97 hbox hb; have n0_ := Aside0.mk (bS3 HB.out hb); have n1_ := Aside0.mk (hbox); have n2_ := Aside0.mk ((bZ3 hg HB.out)); have n3_ := Aside0.mk ((bZ3 hg HB.out)); clear HB; have HB := n0_; have BK152 := n1_; have GW152 := n2_; have GE152 := n3_; clear n0_ n1_ n2_ n3_; clear hb hbox hg) | (go_at_call 32; (with_reducible refine (shape_Of.calls a0 t153 t154 t155 t156 t157 (some q160) _ A3.out).mono ?_); rintro e w98 ⟨rfl, hb⟩; have n0_ := Aside0.mk (bB3 BK152.out hb); have n1_ := Aside0.mk (bS3 HB.out hb); clear BK152; clear HB; have BK152 := n0_; have HB := n1_; clear n0_ n1_; (try clear hb); (try clear hb2); (try clear hk); (try clear hi); (try simp only [errW_none, errW_some])) | ((with_reducible refine gD (N := 6) rfl ?_); refine bE3 6 #[.int .i64 0, .int .u64 0, .int .u64 0, .int .u64 0, .int .i64 0] 68 ?hr ?_; (case hr => first | (go_simp; done) | (go_simp; rfl)); intro gb159 hg w99 hbox hb; have n0_ := Aside0.mk (bB3 BK152.out hb); have n1_ := Aside0.mk (bS3 HB.out hb); have n2_ := Aside0.mk (hbox); have n3_ := Aside0.mk ((bZ3 hg HB.out)); have n4_ := Aside0.mk ((bZ3 hg HB.out)); have n5_ := Aside0.mk ((bL3 hg BK152.out)); have n6_ := Aside0.mk ((bG3 hg BK152.out)); clear BK152; clear HB; have BK152 := n0_; have HB := n1_; have BK159 := n2_; have GW159 := n3_; have GE159 := n4_; have NB152_159 := n5_; have NB159_152 := n6_; clear n0_ n1_ n2_ n3_ n4_ n5_ n6_; clear hb hbox hg; have hnb100 := NB159_152.out; have hnc100 := NB152_159.out; have hcz101_0 : w99.cell? ⟨gb159, 0, none⟩ = some (.int .i64 0) := (blk_cell BK159.out 0).trans rfl; have hcz101_1 : w99.cell? ⟨gb159, 1, none⟩ = some (.int .u64 0) := (blk_cell BK159.out 1).trans rfl; have hcz101_2 : w99.cell? ⟨gb159, 2, none⟩ = some (.int .u64 0) := (blk_cell BK159.out 2).trans rfl; have hcz101_3 : w99.cell? ⟨gb159, 3, none⟩ = some (.int .u64 0) := (blk_cell BK159.out 3).trans rfl; have hcz101_4 : w99.cell? ⟨gb159, 4, none⟩ = some (.int .i64 0) := (blk_cell BK159.out 4).trans rfl; have hfz101_0 := blk_frozen BK159.out 0; have hfz101_1 := blk_frozen BK159.out 1; have hfz101_2 := blk_frozen BK159.out 2; have hfz101_3 := blk_frozen BK159.out 3; have hfz101_4 := blk_frozen BK159.out 4))
    repeat (go_quiet (first | ((with_reducible refine gD (N := 3) rfl ?_); refine bE3 3 #[.bool a1_0, .bool a1_1, .int .i64 a1_2, .int .i64 a1_3, .int .i64 a1_4, .int .i64 a1_5, .int .i64 a1_6, .int .u64 a1_7] 25 ?hr ?_; (case hr => first | (go_simp; done) | (go_simp; rfl)); intro gb152 hg w97 hbox hb; have n0_ := Aside0.mk (bS3 HB.out hb); have n1_ := Aside0.mk (hbox); have n2_ := Aside0.mk ((bZ3 hg HB.out)); have n3_ := Aside0.mk ((bZ3 hg HB.out)); clear HB; have HB := n0_; have BK152 := n1_; have GW152 := n2_; have GE152 := n3_; clear n0_ n1_ n2_ n3_; clear hb hbox hg) | (go_at_call 32; (with_reducible refine (shape_Of.calls a0 t153 t154 t155 t156 t157 (some q160) _ A3.out).mono ?_); rintro e w98 ⟨rfl, hb⟩; have n0_ := Aside0.mk (bB3 BK152.out hb); have n1_ := Aside0.mk (bS3 HB.out hb); clear BK152; clear HB; have BK152 := n0_; have HB := n1_; clear n0_ n1_; (try clear hb); (try clear hb2); (try clear hk); (try clear hi); (try simp only [errW_none, errW_some])) | ((with_reducible refine gD (N := 6) rfl ?_); refine bE3 6 #[.int .i64 0, .int .u64 0, .int .u64 0, .int .u64 0, .int .i64 0] 68 ?hr ?_; (case hr => first | (go_simp; done) | (go_simp; rfl)); intro gb159 hg w99 hbox hb; have n0_ := Aside0.mk (bB3 BK152.out hb); have n1_ := Aside0.mk (bS3 HB.out hb); have n2_ := Aside0.mk (hbox); have n3_ := Aside0.mk ((bZ3 hg HB.out)); have n4_ := Aside0.mk ((bZ3 hg HB.out)); have n5_ := Aside0.mk ((bL3 hg BK152.out)); have n6_ := Aside0.mk ((bG3 hg BK152.out)); clear BK152; clear HB; have BK152 := n0_; have HB := n1_; have BK159 := n2_; have GW159 := n3_; have GE159 := n4_; have NB152_159 := n5_; have NB159_152 := n6_; clear n0_ n1_ n2_ n3_ n4_ n5_ n6_; clear hb hbox hg; have hnb100 := NB159_152.out; have hnc100 := NB152_159.out; have hcz101_0 : w99.cell? ⟨gb159, 0, none⟩ = some (.int .i64 0) := (blk_cell BK159.out 0).trans rfl; have hcz101_1 : w99.cell? ⟨gb159, 1, none⟩ = some (.int .u64 0) := (blk_cell BK159.out 1).trans rfl; have hcz101_2 : w99.cell? ⟨gb159, 2, none⟩ = some (.int .u64 0) := (blk_cell BK159.out 2).trans rfl; have hcz101_3 : w99.cell? ⟨gb159, 3, none⟩ = some (.int .u64 0) := (blk_cell BK159.out 3).trans rfl; have hcz101_4 : w99.cell? ⟨gb159, 4, none⟩ = some (.int .i64 0) := (blk_cell BK159.out 4).trans rfl; have hfz101_0 := blk_frozen BK159.out 0; have hfz101_1 := blk_frozen BK159.out 1; have hfz101_2 := blk_frozen BK159.out 2; have hfz101_3 := blk_frozen BK159.out 3; have hfz101_4 := blk_frozen BK159.out 4)); try go_wp2_with (first | ((with_reducible refine gD (N := 3) rfl ?_); refine bE3 3 #[.bool a1_0, .bool a1_1, .int .i64 a1_2, .int .i64 a1_3, .int .i64 a1_4, .int .i64 a1_5, .int .i64 a1_6, .int .u64 a1_7] 25 ?hr ?_; (case hr => first | (go_simp; done) | (go_simp; rfl)); intro gb152 hg w97 hbox hb; have n0_ := Aside0.mk (bS3 HB.out hb); have n1_ := Aside0.mk (hbox); have n2_ := Aside0.mk ((bZ3 hg HB.out)); have n3_ := Aside0.mk ((bZ3 hg HB.out)); clear HB; have HB := n0_; have BK152 := n1_; have GW152 := n2_; have GE152 := n3_; clear n0_ n1_ n2_ n3_; clear hb hbox hg) | (go_at_call 32; (with_reducible refine (shape_Of.calls a0 t153 t154 t155 t156 t157 (some q160) _ A3.out).mono ?_); rintro e w98 ⟨rfl, hb⟩; have n0_ := Aside0.mk (bB3 BK152.out hb); have n1_ := Aside0.mk (bS3 HB.out hb); clear BK152; clear HB; have BK152 := n0_; have HB := n1_; clear n0_ n1_; (try clear hb); (try clear hb2); (try clear hk); (try clear hi); (try simp only [errW_none, errW_some])) | ((with_reducible refine gD (N := 6) rfl ?_); refine bE3 6 #[.int .i64 0, .int .u64 0, .int .u64 0, .int .u64 0, .int .i64 0] 68 ?hr ?_; (case hr => first | (go_simp; done) | (go_simp; rfl)); intro gb159 hg w99 hbox hb; have n0_ := Aside0.mk (bB3 BK152.out hb); have n1_ := Aside0.mk (bS3 HB.out hb); have n2_ := Aside0.mk (hbox); have n3_ := Aside0.mk ((bZ3 hg HB.out)); have n4_ := Aside0.mk ((bZ3 hg HB.out)); have n5_ := Aside0.mk ((bL3 hg BK152.out)); have n6_ := Aside0.mk ((bG3 hg BK152.out)); clear BK152; clear HB; have BK152 := n0_; have HB := n1_; have BK159 := n2_; have GW159 := n3_; have GE159 := n4_; have NB152_159 := n5_; have NB159_152 := n6_; clear n0_ n1_ n2_ n3_ n4_ n5_ n6_; clear hb hbox hg; have hnb100 := NB159_152.out; have hnc100 := NB152_159.out; have hcz101_0 : w99.cell? ⟨gb159, 0, none⟩ = some (.int .i64 0) := (blk_cell BK159.out 0).trans rfl; have hcz101_1 : w99.cell? ⟨gb159, 1, none⟩ = some (.int .u64 0) := (blk_cell BK159.out 1).trans rfl; have hcz101_2 : w99.cell? ⟨gb159, 2, none⟩ = some (.int .u64 0) := (blk_cell BK159.out 2).trans rfl; have hcz101_3 : w99.cell? ⟨gb159, 3, none⟩ = some (.int .u64 0) := (blk_cell BK159.out 3).trans rfl; have hcz101_4 : w99.cell? ⟨gb159, 4, none⟩ = some (.int .i64 0) := (blk_cell BK159.out 4).trans rfl; have hfz101_0 := blk_frozen BK159.out 0; have hfz101_1 := blk_frozen BK159.out 1; have hfz101_2 := blk_frozen BK159.out 2; have hfz101_3 := blk_frozen BK159.out 3; have hfz101_4 := blk_frozen BK159.out 4)))
    go_ret2
    exact ⟨by first | rfl | (simp [errW_none, errW_some] <;> rfl) | (simp [*, errW_none, errW_some] <;> rfl), by repeat (first | (with_reducible first | exact HB.out | apply pA | apply pN | apply p1 | refine pS ?_ GE152.out | refine pS ?_ GE159.out) | exact HB.out)⟩

/-! ### codec_sound: function 37 -/
def codec_sound.j0 : Nat → Int → Bool → Int → Bool → Int → Int → Option (Bool)
  | 0, _, _, _, _, _, _ => none
  | k + 1, x4, x5, x186000, x186001, x186002, x186003 => if x5 = true then (some (!x186001 && (x186002 == 0 && (x186003 == 0)))) else (if x4 = 1 then (if (x186003 / 9223372036854775808) = 1 then (if x186002 ≥ (-1073741824) then (some (decide (x186002 ≤ 1073741824))) else (some false)) else (some false)) else (some false))
def codec_sound.f (k : Nat) (a0_0 : Int) (a0_1 : Bool) (a0_2 : Int) (a0_3 : Int) : Option (Bool) := if a0_0 = 0 then (codec_sound.j0 k a0_0 (a0_0 == 0) a0_0 a0_1 a0_2 a0_3) else (codec_sound.j0 k a0_0 (a0_0 == 2) a0_0 a0_1 a0_2 a0_3)
theorem codec_sound.mono_l : ∀ k, (∀ y0 y1 y2 y3 y4 y5, LeO (codec_sound.j0 k y0 y1 y2 y3 y4 y5) (codec_sound.j0 (k + 1) y0 y1 y2 y3 y4 y5))
  | 0 => fun _ _ _ _ _ _ r h => by simp [codec_sound.j0] at h
  | k + 1 => by
    have ih0 := codec_sound.mono_l k
    · intro y0 y1 y2 y3 y4 y5
      unfold codec_sound.j0
      repeat' first
      | (with_reducible exact ih0 _ _ _ _ _ _)
      | (with_reducible exact LeO.refl _)
      | (with_reducible exact LeO.none _)
      | (with_reducible refine LeO.ite ?_ ?_)
      | (with_reducible refine LeO.bind ?_ (fun _ => ?_))
      | exact ih0 _ _ _ _ _ _
      | exact LeO.none _
      | refine LeO.ite ?_ ?_
      | refine LeO.bind ?_ (fun _ => ?_)
theorem codec_sound.mono : ∀ a0 a1 a2 a3 k, LeO (codec_sound.f k a0 a1 a2 a3) (codec_sound.f (k + 1) a0 a1 a2 a3) := by
  intro a0 a1 a2 a3 k
  have ih0 := codec_sound.mono_l k
  unfold codec_sound.f
  repeat' first
      | (with_reducible exact ih0 _ _ _ _ _ _)
      | (with_reducible exact LeO.refl _)
      | (with_reducible exact LeO.none _)
      | (with_reducible refine LeO.ite ?_ ?_)
      | (with_reducible refine LeO.bind ?_ (fun _ => ?_))
      | exact ih0 _ _ _ _ _ _
      | exact LeO.none _
      | refine LeO.ite ?_ ?_
      | refine LeO.bind ?_ (fun _ => ?_)
set_option maxHeartbeats 8000000 in
set_option maxRecDepth 100000 in
theorem codec_sound.calls (k : Nat) (a0_0 : Int) (a0_1 : Bool) (a0_2 : Int) (a0_3 : Int) (r : Bool) (w : World) (h : codec_sound.f k a0_0 a0_1 a0_2 a0_3 = some r) :
    Calls Try.prog 37 #[.agg #[.int .i64 a0_0, .bool a0_1, .int .i64 a0_2, .int .u64 a0_3]] w fun e w' => e = .returned (.bool r) ∧ Below w.heap.size w w' := by
  have hu40 := Try.underlying40
  have HB := Aside0.mk (Below.refl w.heap.size w)
  have H : (if a0_0 = 0 then (codec_sound.j0 k a0_0 (a0_0 == 0) a0_0 a0_1 a0_2 a0_3) else (codec_sound.j0 k a0_0 (a0_0 == 2) a0_0 a0_1 a0_2 a0_3)) = some r := h
  clear h
  have HC2 := Aside0.mk H
  clear H
  go_enter Try.func37, Try.ntmps37
  go_upto_if 5 with (first | ((with_reducible refine gD (N := 1) rfl ?_); refine bE3 1 #[.int .i64 a0_0, .bool a0_1, .int .i64 a0_2, .int .u64 a0_3] 40 ?hr ?_; (case hr => first | (go_simp; done) | (go_simp; rfl)); intro gb185 hg w3 hbox hb; have n0_ := Aside0.mk (bS3 HB.out hb); have n1_ := Aside0.mk (hbox); have n2_ := Aside0.mk ((bZ3 hg HB.out)); have n3_ := Aside0.mk ((bZ3 hg HB.out)); clear HB; have HB := n0_; have BK185 := n1_; have GW185 := n2_; have GE185 := n3_; clear n0_ n1_ n2_ n3_; clear hb hbox hg; have hcz4_0 : w3.cell? ⟨gb185, 0, none⟩ = some (.int .i64 a0_0) := (blk_cell BK185.out 0).trans rfl; have hcz4_1 : w3.cell? ⟨gb185, 1, none⟩ = some (.bool a0_1) := (blk_cell BK185.out 1).trans rfl; have hcz4_2 : w3.cell? ⟨gb185, 2, none⟩ = some (.int .i64 a0_2) := (blk_cell BK185.out 2).trans rfl; have hcz4_3 : w3.cell? ⟨gb185, 3, none⟩ = some (.int .u64 a0_3) := (blk_cell BK185.out 3).trans rfl; have hfz4_0 := blk_frozen BK185.out 0; have hfz4_1 := blk_frozen BK185.out 1; have hfz4_2 := blk_frozen BK185.out 2; have hfz4_3 := blk_frozen BK185.out 3))
  (try simp only [Act.put, List.setIfInBounds_toArray, List.set_cons_zero, List.set_cons_succ])
  go_cut [5] (fun v5 wc => ∃ (kq : Nat) (x5_1 : Bool), v5 = .bool x5_1 ∧ Aside0 (codec_sound.j0 kq a0_0 x5_1 a0_0 a0_1 a0_2 a0_3 = some r) ∧ Aside0 (kq ≤ k) ∧ Aside0 (wc.heap[gb185]? = some (.cells #[.int .i64 a0_0, .bool a0_1, .int .i64 a0_2, .int .u64 a0_3] 40 (0, 0))) ∧ Aside0 (Below w.heap.size w wc))
  case first =>
    have H := HC2.out
    clear HC2
    by_cases c5 : a0_0 = 0
    · rw [if_pos c5] at H
      have c5b0 : (a0_0 == 0) = true := beq_iff_eq.mpr c5
      have c5b1 : (a0_0 != 0) = false := bne_eq_false_iff_eq.mpr c5
      clear c5
      (first | rw [c5b0] | (simp only [i64_w, i32_w]; rw [c5b0]) | skip)
      have H' := Aside0.mk H
      clear H
      go_wp2
      go_meet
      case rel => exact ⟨_, ((a0_0 == 0)), (by first | rfl | (simp; done) | (simp [*]; done)), H', ⟨by first | omega | exact Nat.le_refl _⟩, ⟨by (with_reducible repeat (first | refine bN ?_ _ | refine bD ?_ | refine bA ?_ _)); exact BK185.out⟩, ⟨by repeat (first | (with_reducible first | exact HB.out | apply pA | apply pN | apply p1 | refine pS ?_ GE185.out) | exact HB.out)⟩⟩
    · rw [if_neg c5] at H
      have c5b0 : (a0_0 == 0) = false := beq_eq_false_iff_ne.mpr c5
      have c5b1 : (a0_0 != 0) = true := bne_iff_ne.mpr c5
      (first | rw [c5b0] | (simp only [i64_w, i32_w]; rw [c5b0]) | skip)
      have H' := Aside0.mk H
      clear H
      go_wp2
      go_meet
      case rel => exact ⟨_, ((a0_0 == 2)), (by first | rfl | (simp; done) | (simp [*]; done)), H', ⟨by first | omega | exact Nat.le_refl _⟩, ⟨by (with_reducible repeat (first | refine bN ?_ _ | refine bD ?_ | refine bA ?_ _)); exact BK185.out⟩, ⟨by repeat (first | (with_reducible first | exact HB.out | apply pA | apply pN | apply p1 | refine pS ?_ GE185.out) | exact HB.out)⟩⟩
  case rest =>
    clear HC2
    try clear p2
    try clear c3
    try clear c5
    try clear c5b0
    try clear c5b1
    try clear hcz4_0
    try clear hcz4_1
    try clear hcz4_2
    try clear hcz4_3
    try clear hfz4_0
    try clear hfz4_1
    try clear hfz4_2
    try clear hfz4_3
    obtain ⟨kq, x5_1, rfl, HA, HJ1, BK185, HB⟩ := hcut
    cases kq with
    | zero => exact absurd HA.out (by simp [codec_sound.j0])
    | succ kj1 =>
      have H := HA.out
      clear HA
      simp only [codec_sound.j0] at H
      by_cases c6 : x5_1 = true
      · subst c6
        have H1 : (some (!a0_1 && (a0_2 == 0 && (a0_3 == 0)))) = some r := by rw [if_pos rfl] at H; exact H
        clear H
        have H := H1
        clear H1
        obtain rfl := Option.some.inj H
        have hcz7_0 : wc.cell? ⟨gb185, 0, none⟩ = some (.int .i64 a0_0) := (blk_cell BK185.out 0).trans rfl
        have hcz7_1 : wc.cell? ⟨gb185, 1, none⟩ = some (.bool a0_1) := (blk_cell BK185.out 1).trans rfl
        have hcz7_2 : wc.cell? ⟨gb185, 2, none⟩ = some (.int .i64 a0_2) := (blk_cell BK185.out 2).trans rfl
        have hcz7_3 : wc.cell? ⟨gb185, 3, none⟩ = some (.int .u64 a0_3) := (blk_cell BK185.out 3).trans rfl
        have hfz7_0 := blk_frozen BK185.out 0
        have hfz7_1 := blk_frozen BK185.out 1
        have hfz7_2 := blk_frozen BK185.out 2
        have hfz7_3 := blk_frozen BK185.out 3
        go_wp2
        go_ret
        exact ⟨by first | rfl | (simp [errW_none, errW_some] <;> rfl) | (simp [*, errW_none, errW_some] <;> rfl), by repeat (first | (with_reducible first | exact HB.out | apply pA | apply pN | apply p1 | refine pS ?_ GE185.out) | exact HB.out)⟩
      · replace c6 := Bool.eq_false_iff.mpr c6
        subst c6
        have H1 : (if a0_0 = 1 then (if (a0_3 / 9223372036854775808) = 1 then (if a0_2 ≥ (-1073741824) then (some (decide (a0_2 ≤ 1073741824))) else (some false)) else (some false)) else (some false)) = some r := by rw [if_neg (show ¬ (false = true) by decide)] at H; exact H
        clear H
        have H := H1
        clear H1
        by_cases c8 : a0_0 = 1
        · rw [if_pos c8] at H
          have c8b0 : (a0_0 == 1) = true := beq_iff_eq.mpr c8
          have c8b1 : (a0_0 != 1) = false := bne_eq_false_iff_eq.mpr c8
          clear c8
          by_cases c9 : (a0_3 / 9223372036854775808) = 1
          · rw [if_pos c9] at H
            have c9b0 : ((a0_3 / 9223372036854775808) == 1) = true := beq_iff_eq.mpr c9
            have c9b1 : ((a0_3 / 9223372036854775808) != 1) = false := bne_eq_false_iff_eq.mpr c9
            clear c9
            by_cases c10 : a0_2 ≥ (-1073741824)
            · rw [if_pos c10] at H
              have c10b0 : decide ((-1073741824) ≤ a0_2) = true := decide_eq_true c10
              clear c10
              obtain rfl := Option.some.inj H
              have hcz11_0 : wc.cell? ⟨gb185, 0, none⟩ = some (.int .i64 a0_0) := (blk_cell BK185.out 0).trans rfl
              have hcz11_1 : wc.cell? ⟨gb185, 1, none⟩ = some (.bool a0_1) := (blk_cell BK185.out 1).trans rfl
              have hcz11_2 : wc.cell? ⟨gb185, 2, none⟩ = some (.int .i64 a0_2) := (blk_cell BK185.out 2).trans rfl
              have hcz11_3 : wc.cell? ⟨gb185, 3, none⟩ = some (.int .u64 a0_3) := (blk_cell BK185.out 3).trans rfl
              have hfz11_0 := blk_frozen BK185.out 0
              have hfz11_1 := blk_frozen BK185.out 1
              have hfz11_2 := blk_frozen BK185.out 2
              have hfz11_3 := blk_frozen BK185.out 3
              go_wp2
              go_ret
              exact ⟨by first | rfl | (simp [errW_none, errW_some] <;> rfl) | (simp [*, errW_none, errW_some] <;> rfl), by repeat (first | (with_reducible first | exact HB.out | apply pA | apply pN | apply p1 | refine pS ?_ GE185.out) | exact HB.out)⟩
            · rw [if_neg c10] at H
              have c10b0 : decide ((-1073741824) ≤ a0_2) = false := decide_eq_false c10
              clear c10
              obtain rfl := Option.some.inj H
              have hcz12_0 : wc.cell? ⟨gb185, 0, none⟩ = some (.int .i64 a0_0) := (blk_cell BK185.out 0).trans rfl
              have hcz12_1 : wc.cell? ⟨gb185, 1, none⟩ = some (.bool a0_1) := (blk_cell BK185.out 1).trans rfl
              have hcz12_2 : wc.cell? ⟨gb185, 2, none⟩ = some (.int .i64 a0_2) := (blk_cell BK185.out 2).trans rfl
              have hcz12_3 : wc.cell? ⟨gb185, 3, none⟩ = some (.int .u64 a0_3) := (blk_cell BK185.out 3).trans rfl
              have hfz12_0 := blk_frozen BK185.out 0
              have hfz12_1 := blk_frozen BK185.out 1
              have hfz12_2 := blk_frozen BK185.out 2
              have hfz12_3 := blk_frozen BK185.out 3
              go_wp2
              go_ret
              exact ⟨by first | rfl | (simp [errW_none, errW_some] <;> rfl) | (simp [*, errW_none, errW_some] <;> rfl), by repeat (first | (with_reducible first | exact HB.out | apply pA | apply pN | apply p1 | refine pS ?_ GE185.out) | exact HB.out)⟩
          · rw [if_neg c9] at H
            have c9b0 : ((a0_3 / 9223372036854775808) == 1) = false := beq_eq_false_iff_ne.mpr c9
            have c9b1 : ((a0_3 / 9223372036854775808) != 1) = true := bne_iff_ne.mpr c9
            obtain rfl := Option.some.inj H
            have hcz13_0 : wc.cell? ⟨gb185, 0, none⟩ = some (.int .i64 a0_0) := (blk_cell BK185.out 0).trans rfl
            have hcz13_1 : wc.cell? ⟨gb185, 1, none⟩ = some (.bool a0_1) := (blk_cell BK185.out 1).trans rfl
            have hcz13_2 : wc.cell? ⟨gb185, 2, none⟩ = some (.int .i64 a0_2) := (blk_cell BK185.out 2).trans rfl
            have hcz13_3 : wc.cell? ⟨gb185, 3, none⟩ = some (.int .u64 a0_3) := (blk_cell BK185.out 3).trans rfl
            have hfz13_0 := blk_frozen BK185.out 0
            have hfz13_1 := blk_frozen BK185.out 1
            have hfz13_2 := blk_frozen BK185.out 2
            have hfz13_3 := blk_frozen BK185.out 3
            go_wp2
            go_ret
            exact ⟨by first | rfl | (simp [errW_none, errW_some] <;> rfl) | (simp [*, errW_none, errW_some] <;> rfl), by repeat (first | (with_reducible first | exact HB.out | apply pA | apply pN | apply p1 | refine pS ?_ GE185.out) | exact HB.out)⟩
        · rw [if_neg c8] at H
          have c8b0 : (a0_0 == 1) = false := beq_eq_false_iff_ne.mpr c8
          have c8b1 : (a0_0 != 1) = true := bne_iff_ne.mpr c8
          obtain rfl := Option.some.inj H
          go_wp2
          go_ret
          exact ⟨by first | rfl | (simp [errW_none, errW_some] <;> rfl) | (simp [*, errW_none, errW_some] <;> rfl), by repeat (first | (with_reducible first | exact HB.out | apply pA | apply pN | apply p1 | refine pS ?_ GE185.out) | exact HB.out)⟩

end Go.Proofs.Ytmofdimkdkfdgaa.F
