/- Printed functions and their walks; no further conditions. -/
import Derived.Test.YtjlaijaadclghaaF0Q
import Derived.Test.YtjlaijaadclghaaF3Q
import Derived.Test.YtjlaijaadclghaaF8Q
import Derived.Test.YtjlaijaadclghaaF9Q
namespace Go.Proofs.Ytjlaijaadclghaa.F
open RowKit YtjlaijaadclghaaW PrintWords PrintLast PrintMore
attribute [local go_sem high] xor_u64 xor_u32
attribute [local go_sem] max2_int min2_int max_two min_two max_three min_three max_four min_four
set_option linter.all false
mutual
def round_Cut.j0 : Nat → Int → Int → Bool → Int → Int → Int → Bool → Option (Int × Int × Option Int)
 | 0, _, _, _, _, _, _, _ => none
 | k + 1, x0, x194000, x194001, x194002, x194003, x194004, x194005 => (twin_Shl.f k x194003 x194004 1).bind fun bt203 => ((round_under.f bt203.1 bt203.2.1 (IntKind.u64.wrap (Go.bits .and .i64 x194002 3)) 2 x194005).bind fun bt208 => (if (x194002 / 4) ≥ 0 then ((round_under.f bt208.1 bt208.2.1 0 1 bt208.2.2).bind fun bt211 => (round_Cut.l0 k x0 bt211.2.2 (wrap64 ((x194002 / 4) + 1)) 0 bt211.1 bt211.2.1)) else ((round_under.f bt208.1 bt208.2.1 1 1 bt208.2.2).bind fun bt217 => (round_Cut.l1 k x0 bt217.2.2 (wrap64 (-(x194002 / 4))) 0 bt217.1 bt217.2.1))))
def round_Cut.j3 : Nat → Int → Bool → Int → Int → Option (Int × Int × Option Int)
 | 0, _, _, _, _ => none
 | k + 1, x0, x12, x208000, x208001 => if 0 ≤ (wrap64 (65 - x0)) then ((twin_Shl.f k x208000 x208001 (wrap64 (x0 - 1))).bind fun bt223 => (if bt223.2.1 = 0 then ((round_left.f k bt223.1 x12).bind fun t228 => (some (shr .u64 x208000 (wrap64 (65 - x0)), t228, none))) else ((round_left.f k bt223.1 true).bind fun t229 => (some (shr .u64 x208000 (wrap64 (65 - x0)), t229, none))))) else (none)
def round_Cut.l0 : Nat → Int → Bool → Int → Int → Int → Int → Option (Int × Int × Option Int)
 | 0, _, _, _, _, _, _ => none
 | k + 1, x0, x12, x114, x115, x208000, x208001 => if x115 < x114 then ((round_under.f x208000 x208001 1 1 x12).bind fun bt214 => (round_Cut.l0 k x0 bt214.2.2 x114 (wrap64 (x115 + 1)) bt214.1 bt214.2.1)) else (round_Cut.j3 k x0 x12 x208000 x208001)
def round_Cut.l1 : Nat → Int → Bool → Int → Int → Int → Int → Option (Int × Int × Option Int)
 | 0, _, _, _, _, _, _ => none
 | k + 1, x0, x12, x131, x132, x208000, x208001 => if x132 < x131 then ((round_under.f x208000 x208001 0 1 x12).bind fun bt220 => (round_Cut.l1 k x0 bt220.2.2 x131 (wrap64 (x132 + 1)) bt220.1 bt220.2.1)) else (round_Cut.j3 k x0 x12 x208000 x208001)
end
def round_Cut.f (k : Nat) (a0 : Int) (a1_0 : Int) (a1_1 : Bool) (a1_2 : Int) (a1_3 : Int) (a1_4 : Int) (a1_5 : Bool) : Option (Int × Int × Option Int) := (shape_Of.f a0).bind fun bt194 => (if bt194.2.2.2.2.2.isNone = true then ((round_sound.f k a1_0 a1_1 a1_2 a1_3 a1_4 a1_5).bind fun t202 => (if t202 = true then (if a1_0 = 0 then (some (0, 0, none)) else (if a1_0 = 2 then (some (bt194.2.2.2.1, 0, none)) else (if a1_2 ≥ bt194.2.2.2.2.1 then (some (bt194.2.1, 0, none)) else (if a1_2 < (wrap64 (-bt194.2.2.2.2.1)) then (some (bt194.2.2.1, 0, none)) else (if a1_2 = (wrap64 (-bt194.2.2.2.2.1)) then (if a1_3 = 9223372036854775808 then (if a1_4 = 0 then (if a1_5 = true then (round_Cut.j0 k a0 a1_0 a1_1 a1_2 a1_3 a1_4 a1_5) else (some (bt194.2.2.1, 0, none))) else (round_Cut.j0 k a0 a1_0 a1_1 a1_2 a1_3 a1_4 a1_5)) else (round_Cut.j0 k a0 a1_0 a1_1 a1_2 a1_3 a1_4 a1_5)) else (round_Cut.j0 k a0 a1_0 a1_1 a1_2 a1_3 a1_4 a1_5)))))) else (some (0, 0, some 1)))) else (some (0, 0, some (bt194.2.2.2.2.2.getD 0))))
set_option maxHeartbeats 8000000 in
set_option maxRecDepth 100000 in
theorem round_Cut.calls (k : Nat) (a0 : Int) (a1_0 : Int) (a1_1 : Bool) (a1_2 : Int) (a1_3 : Int) (a1_4 : Int) (a1_5 : Bool) (r1 : Int) (r2 : Int) (r3 : Option Int) (w : World) (h : round_Cut.f k a0 a1_0 a1_1 a1_2 a1_3 a1_4 a1_5 = some (r1, r2, r3)) :
  Calls Try.prog 53 #[.int .i64 a0, .agg #[.int .i64 a1_0, .bool a1_1, .int .i64 a1_2, .int .u64 a1_3, .int .u64 a1_4, .bool a1_5]] w fun e w' => e = .returned (.tuple #[.int .u64 r1, .int .i64 r2, errW r3]) ∧ Below w.heap.size w w' := by
 have hu76 := Try.underlying76
 have hu124 := Try.underlying124
 have hu100 := Try.underlying100
 have hu25 := Try.underlying25
 have hu29 := Try.underlying29
 have HB := Aside0.mk (Below.refl w.heap.size w)
 have H : ((shape_Of.f a0).bind fun bt194 => (if bt194.2.2.2.2.2.isNone = true then ((round_sound.f k a1_0 a1_1 a1_2 a1_3 a1_4 a1_5).bind fun t202 => (if t202 = true then (if a1_0 = 0 then (some (0, 0, none)) else (if a1_0 = 2 then (some (bt194.2.2.2.1, 0, none)) else (if a1_2 ≥ bt194.2.2.2.2.1 then (some (bt194.2.1, 0, none)) else (if a1_2 < (wrap64 (-bt194.2.2.2.2.1)) then (some (bt194.2.2.1, 0, none)) else (if a1_2 = (wrap64 (-bt194.2.2.2.2.1)) then (if a1_3 = 9223372036854775808 then (if a1_4 = 0 then (if a1_5 = true then (round_Cut.j0 k a0 a1_0 a1_1 a1_2 a1_3 a1_4 a1_5) else (some (bt194.2.2.1, 0, none))) else (round_Cut.j0 k a0 a1_0 a1_1 a1_2 a1_3 a1_4 a1_5)) else (round_Cut.j0 k a0 a1_0 a1_1 a1_2 a1_3 a1_4 a1_5)) else (round_Cut.j0 k a0 a1_0 a1_1 a1_2 a1_3 a1_4 a1_5)))))) else (some (0, 0, some 1)))) else (some (0, 0, some (bt194.2.2.2.2.2.getD 0))))) = some (r1, r2, r3) := h
 clear h
 replace H := Option.bind_eq_some_iff.mp H
 obtain ⟨⟨t194, t195, t196, t197, t198, t199⟩, A30, H⟩ := H
 try dsimp -simprocs only at H
 have A3 := Aside0.mk A30
 clear A30
 have HC4 := Aside0.mk H
 clear H
 go_enter Try.func53, Try.ntmps53
 go_upto_block 0 with (first | ((with_reducible refine gD (N := 3) rfl ?_); refine bE3 3 #[.int .i64 a1_0, .bool a1_1, .int .i64 a1_2, .int .u64 a1_3, .int .u64 a1_4, .bool a1_5] 76 ?hr ?_; (case hr => first | (go_simp; done) | (go_simp; rfl)); intro gb193 hg w5 hbox hb; have BK193 := Aside0.mk (hbox); have GW193 := Aside0.mk ((bZ3 hg HB.out)); have GE193 := Aside0.mk ((bZ3 hg HB.out)); replace HB := Aside0.mk (bS3 HB.out hb); clear hb hbox hg) | ((with_reducible refine gX_ 68 20 rfl rfl ?_); refine goesY_ (some 20) Try.func68 #[.int .i64 a0] ?_; (with_reducible refine (shape_Of.calls a0 t194 t195 t196 t197 t198 t199 _ A3.out).mono ?_); rintro e w6 ⟨rfl, hb⟩; refine ⟨_, rfl, ?_⟩; replace BK193 := Aside0.mk (bB3 BK193.out hb); replace HB := Aside0.mk (bS3 HB.out hb); (try clear hb); (try clear hk); (try simp only [errW_none, errW_some])) | ((with_reducible refine gD (N := 7) rfl ?_); refine bE3 7 #[.int .i64 0, .int .u64 0, .int .u64 0, .int .u64 0, .int .i64 0] 124 ?hr ?_; (case hr => first | (go_simp; done) | (go_simp; rfl)); intro gb200 hg w7 hbox hb; have BK200 := Aside0.mk (hbox); have GW200 := Aside0.mk ((bZ3 hg HB.out)); have GE200 := Aside0.mk ((bZ3 hg HB.out)); replace HB := Aside0.mk (bS3 HB.out hb); have NB193_200 := Aside0.mk ((bL3 hg BK193.out)); have NB200_193 := Aside0.mk ((bG3 hg BK193.out)); replace BK193 := Aside0.mk (bB3 BK193.out hb); clear hb hbox hg; have hnb8 := NB200_193.out; have hnc8 := NB193_200.out; obtain ⟨hcz9_0, hcz9_1, hcz9_2, hcz9_3, hcz9_4, hfz9_0, hfz9_1, hfz9_2, hfz9_3, hfz9_4⟩ := cl5 BK200.out))
 (try simp only [Act.put, lS_, lZ_, lC_])
 go_cut [] (fun wc => ∃ (kq : Nat), Aside0 (round_Cut.j0 kq a0 a1_0 a1_1 a1_2 a1_3 a1_4 a1_5 = some (r1, r2, r3)) ∧ Aside0 (kq ≤ k) ∧ Aside0 (wc.heap[gb193]? = some (.cells #[.int .i64 a1_0, .bool a1_1, .int .i64 a1_2, .int .u64 a1_3, .int .u64 a1_4, .bool a1_5] 76 (0, 0))) ∧ Aside0 (wc.heap[gb200]? = some (.cells #[.int .i64 t194, .int .u64 t195, .int .u64 t196, .int .u64 t197, .int .i64 t198] 124 (0, 0))) ∧ Aside0 (Below w.heap.size w wc))
 case first =>
  have H := HC4.out
  clear HC4
  rcases t199 with _ | q201
  ·
   rw [if_pos (show (none : Option Int).isNone = true by rfl)] at H
   try simp only [Option.getD_some] at H
   try simp only [errW_none, errW_some]
   replace H := Option.bind_eq_some_iff.mp H
   obtain ⟨t202, A100, H⟩ := H
   try dsimp -simprocs only at H
   have A10 := Aside0.mk A100
   clear A100
   by_cases c11 : t202 = true
   ·
    subst c11
    rw [if_pos rfl] at H
    by_cases c12 : a1_0 = 0
    ·
     rw [if_pos c12] at H
     have c12b0 : (a1_0 == 0) = true := beq_iff_eq.mpr c12
     have c12b1 : (a1_0 != 0) = false := bne_eq_false_iff_eq.mpr c12
     clear c12
     (first | rw [c12b0] | (simp only [i64_w, i32_w]; rw [c12b0]) | skip)
     simp only [Option.some.injEq, Prod.mk.injEq] at H
     obtain ⟨rfl, rfl, rfl⟩ := H
     have hnb13 := NB193_200.out
     have hnc13 := NB200_193.out
     obtain ⟨hcz14_0, hcz14_1, hcz14_2, hcz14_3, hcz14_4, hcz14_5, hfz14_0, hfz14_1, hfz14_2, hfz14_3, hfz14_4, hfz14_5⟩ := cl6 BK193.out
     go_wp2_with (first | ((with_reducible refine gX_ 69 29 rfl rfl ?_); refine goesY_ (some 29) Try.func69 #[.agg #[.int .i64 a1_0, .bool a1_1, .int .i64 a1_2, .int .u64 a1_3, .int .u64 a1_4, .bool a1_5]] ?_; (with_reducible refine (round_sound.calls k a1_0 a1_1 a1_2 a1_3 a1_4 a1_5 true _ A10.out).mono ?_); rintro e w15 ⟨rfl, hb⟩; refine ⟨_, rfl, ?_⟩; replace BK193 := Aside0.mk (bB (g := gb193) (o := .cells #[.int .i64 a1_0, .bool a1_1, .int .i64 a1_2, .int .u64 a1_3, .int .u64 a1_4, .bool a1_5] 76 (0, 0)) (bQ3 BK193.out) hb); replace BK200 := Aside0.mk (bB (g := gb200) (o := .cells #[.int .i64 t194, .int .u64 t195, .int .u64 t196, .int .u64 t197, .int .i64 t198] 124 (0, 0)) (bQ3 BK200.out) hb); replace HB := Aside0.mk (bS3 HB.out hb); (try clear hb); (try clear hk); obtain ⟨hcz16_0, hcz16_1, hcz16_2, hcz16_3, hcz16_4, hcz16_5, hfz16_0, hfz16_1, hfz16_2, hfz16_3, hfz16_4, hfz16_5⟩ := cl6 BK193.out))
     go_ret3
     exact ⟨eR3, bR3 HB.out⟩
    ·
     rw [if_neg c12] at H
     have c12b0 : (a1_0 == 0) = false := beq_eq_false_iff_ne.mpr c12
     have c12b1 : (a1_0 != 0) = true := bne_iff_ne.mpr c12
     (first | rw [c12b0] | (simp only [i64_w, i32_w]; rw [c12b0]) | skip)
     by_cases c17 : a1_0 = 2
     ·
      rw [if_pos c17] at H
      have c17b0 : (a1_0 == 2) = true := beq_iff_eq.mpr c17
      have c17b1 : (a1_0 != 2) = false := bne_eq_false_iff_eq.mpr c17
      clear c17
      simp only [Option.some.injEq, Prod.mk.injEq] at H
      obtain ⟨rfl, rfl, rfl⟩ := H
      have hnb18 := NB193_200.out
      have hnc18 := NB200_193.out
      obtain ⟨hcz19_0, hcz19_1, hcz19_2, hcz19_3, hcz19_4, hcz19_5, hfz19_0, hfz19_1, hfz19_2, hfz19_3, hfz19_4, hfz19_5⟩ := cl6 BK193.out
      go_wp2_with (first | ((with_reducible refine gX_ 69 29 rfl rfl ?_); refine goesY_ (some 29) Try.func69 #[.agg #[.int .i64 a1_0, .bool a1_1, .int .i64 a1_2, .int .u64 a1_3, .int .u64 a1_4, .bool a1_5]] ?_; (with_reducible refine (round_sound.calls k a1_0 a1_1 a1_2 a1_3 a1_4 a1_5 true _ A10.out).mono ?_); rintro e w20 ⟨rfl, hb⟩; refine ⟨_, rfl, ?_⟩; replace BK193 := Aside0.mk (bB (g := gb193) (o := .cells #[.int .i64 a1_0, .bool a1_1, .int .i64 a1_2, .int .u64 a1_3, .int .u64 a1_4, .bool a1_5] 76 (0, 0)) (bQ3 BK193.out) hb); replace BK200 := Aside0.mk (bB (g := gb200) (o := .cells #[.int .i64 t194, .int .u64 t195, .int .u64 t196, .int .u64 t197, .int .i64 t198] 124 (0, 0)) (bQ3 BK200.out) hb); replace HB := Aside0.mk (bS3 HB.out hb); (try clear hb); (try clear hk); obtain ⟨hcz21_0, hcz21_1, hcz21_2, hcz21_3, hcz21_4, hcz21_5, hfz21_0, hfz21_1, hfz21_2, hfz21_3, hfz21_4, hfz21_5⟩ := cl6 BK193.out; obtain ⟨hcz22_0, hcz22_1, hcz22_2, hcz22_3, hcz22_4, hfz22_0, hfz22_1, hfz22_2, hfz22_3, hfz22_4⟩ := cl5 BK200.out))
      go_ret3
      exact ⟨eR3, bR3 HB.out⟩
     ·
      rw [if_neg c17] at H
      have c17b0 : (a1_0 == 2) = false := beq_eq_false_iff_ne.mpr c17
      have c17b1 : (a1_0 != 2) = true := bne_iff_ne.mpr c17
      by_cases c23 : a1_2 ≥ t198
      ·
       rw [if_pos c23] at H
       have c23b0 : decide (t198 ≤ a1_2) = true := decide_eq_true c23
       clear c23
       simp only [Option.some.injEq, Prod.mk.injEq] at H
       obtain ⟨rfl, rfl, rfl⟩ := H
       have hnb24 := NB193_200.out
       have hnc24 := NB200_193.out
       obtain ⟨hcz25_0, hcz25_1, hcz25_2, hcz25_3, hcz25_4, hcz25_5, hfz25_0, hfz25_1, hfz25_2, hfz25_3, hfz25_4, hfz25_5⟩ := cl6 BK193.out
       go_wp2_with (first | ((with_reducible refine gX_ 69 29 rfl rfl ?_); refine goesY_ (some 29) Try.func69 #[.agg #[.int .i64 a1_0, .bool a1_1, .int .i64 a1_2, .int .u64 a1_3, .int .u64 a1_4, .bool a1_5]] ?_; (with_reducible refine (round_sound.calls k a1_0 a1_1 a1_2 a1_3 a1_4 a1_5 true _ A10.out).mono ?_); rintro e w26 ⟨rfl, hb⟩; refine ⟨_, rfl, ?_⟩; replace BK193 := Aside0.mk (bB (g := gb193) (o := .cells #[.int .i64 a1_0, .bool a1_1, .int .i64 a1_2, .int .u64 a1_3, .int .u64 a1_4, .bool a1_5] 76 (0, 0)) (bQ3 BK193.out) hb); replace BK200 := Aside0.mk (bB (g := gb200) (o := .cells #[.int .i64 t194, .int .u64 t195, .int .u64 t196, .int .u64 t197, .int .i64 t198] 124 (0, 0)) (bQ3 BK200.out) hb); replace HB := Aside0.mk (bS3 HB.out hb); (try clear hb); (try clear hk); obtain ⟨hcz27_0, hcz27_1, hcz27_2, hcz27_3, hcz27_4, hcz27_5, hfz27_0, hfz27_1, hfz27_2, hfz27_3, hfz27_4, hfz27_5⟩ := cl6 BK193.out; obtain ⟨hcz28_0, hcz28_1, hcz28_2, hcz28_3, hcz28_4, hfz28_0, hfz28_1, hfz28_2, hfz28_3, hfz28_4⟩ := cl5 BK200.out))
       go_ret3
       exact ⟨eR3, bR3 HB.out⟩
      ·
       rw [if_neg c23] at H
       have c23b0 : decide (t198 ≤ a1_2) = false := decide_eq_false c23
       clear c23
       by_cases c29 : a1_2 < (wrap64 (-t198))
       ·
        rw [if_pos c29] at H
        have c29b0 : decide (a1_2 < (wrap64 (-t198))) = true := decide_eq_true c29
        clear c29
        simp only [Option.some.injEq, Prod.mk.injEq] at H
        obtain ⟨rfl, rfl, rfl⟩ := H
        have hnb30 := NB193_200.out
        have hnc30 := NB200_193.out
        obtain ⟨hcz31_0, hcz31_1, hcz31_2, hcz31_3, hcz31_4, hcz31_5, hfz31_0, hfz31_1, hfz31_2, hfz31_3, hfz31_4, hfz31_5⟩ := cl6 BK193.out
        go_wp2_with (first | ((with_reducible refine gX_ 69 29 rfl rfl ?_); refine goesY_ (some 29) Try.func69 #[.agg #[.int .i64 a1_0, .bool a1_1, .int .i64 a1_2, .int .u64 a1_3, .int .u64 a1_4, .bool a1_5]] ?_; (with_reducible refine (round_sound.calls k a1_0 a1_1 a1_2 a1_3 a1_4 a1_5 true _ A10.out).mono ?_); rintro e w32 ⟨rfl, hb⟩; refine ⟨_, rfl, ?_⟩; replace BK193 := Aside0.mk (bB (g := gb193) (o := .cells #[.int .i64 a1_0, .bool a1_1, .int .i64 a1_2, .int .u64 a1_3, .int .u64 a1_4, .bool a1_5] 76 (0, 0)) (bQ3 BK193.out) hb); replace BK200 := Aside0.mk (bB (g := gb200) (o := .cells #[.int .i64 t194, .int .u64 t195, .int .u64 t196, .int .u64 t197, .int .i64 t198] 124 (0, 0)) (bQ3 BK200.out) hb); replace HB := Aside0.mk (bS3 HB.out hb); (try clear hb); (try clear hk); obtain ⟨hcz33_0, hcz33_1, hcz33_2, hcz33_3, hcz33_4, hcz33_5, hfz33_0, hfz33_1, hfz33_2, hfz33_3, hfz33_4, hfz33_5⟩ := cl6 BK193.out; obtain ⟨hcz34_0, hcz34_1, hcz34_2, hcz34_3, hcz34_4, hfz34_0, hfz34_1, hfz34_2, hfz34_3, hfz34_4⟩ := cl5 BK200.out))
        go_ret3
        exact ⟨eR3, bR3 HB.out⟩
       ·
        rw [if_neg c29] at H
        have c29b0 : decide (a1_2 < (wrap64 (-t198))) = false := decide_eq_false c29
        clear c29
        by_cases c35 : a1_2 = (wrap64 (-t198))
        ·
         rw [if_pos c35] at H
         have c35b0 : (a1_2 == (wrap64 (-t198))) = true := beq_iff_eq.mpr c35
         have c35b1 : (a1_2 != (wrap64 (-t198))) = false := bne_eq_false_iff_eq.mpr c35
         clear c35
         by_cases c36 : a1_3 = 9223372036854775808
         ·
          rw [if_pos c36] at H
          have c36b0 : (a1_3 == 9223372036854775808) = true := beq_iff_eq.mpr c36
          have c36b1 : (a1_3 != 9223372036854775808) = false := bne_eq_false_iff_eq.mpr c36
          clear c36
          by_cases c37 : a1_4 = 0
          ·
           rw [if_pos c37] at H
           have c37b0 : (a1_4 == 0) = true := beq_iff_eq.mpr c37
           have c37b1 : (a1_4 != 0) = false := bne_eq_false_iff_eq.mpr c37
           clear c37
           by_cases c38 : a1_5 = true
           ·
            subst c38
            rw [if_pos rfl] at H
            have H' := Aside0.mk H
            clear H
            have hnb39 := NB193_200.out
            have hnc39 := NB200_193.out
            obtain ⟨hcz40_0, hcz40_1, hcz40_2, hcz40_3, hcz40_4, hcz40_5, hfz40_0, hfz40_1, hfz40_2, hfz40_3, hfz40_4, hfz40_5⟩ := cl6 BK193.out
            go_wp2_with (first | ((with_reducible refine gX_ 69 29 rfl rfl ?_); refine goesY_ (some 29) Try.func69 #[.agg #[.int .i64 a1_0, .bool a1_1, .int .i64 a1_2, .int .u64 a1_3, .int .u64 a1_4, .bool true]] ?_; (with_reducible refine (round_sound.calls k a1_0 a1_1 a1_2 a1_3 a1_4 true true _ A10.out).mono ?_); rintro e w41 ⟨rfl, hb⟩; refine ⟨_, rfl, ?_⟩; replace BK193 := Aside0.mk (bB (g := gb193) (o := .cells #[.int .i64 a1_0, .bool a1_1, .int .i64 a1_2, .int .u64 a1_3, .int .u64 a1_4, .bool true] 76 (0, 0)) (bQ3 BK193.out) hb); replace BK200 := Aside0.mk (bB (g := gb200) (o := .cells #[.int .i64 t194, .int .u64 t195, .int .u64 t196, .int .u64 t197, .int .i64 t198] 124 (0, 0)) (bQ3 BK200.out) hb); replace HB := Aside0.mk (bS3 HB.out hb); (try clear hb); (try clear hk); obtain ⟨hcz42_0, hcz42_1, hcz42_2, hcz42_3, hcz42_4, hcz42_5, hfz42_0, hfz42_1, hfz42_2, hfz42_3, hfz42_4, hfz42_5⟩ := cl6 BK193.out; obtain ⟨hcz43_0, hcz43_1, hcz43_2, hcz43_3, hcz43_4, hfz43_0, hfz43_1, hfz43_2, hfz43_3, hfz43_4⟩ := cl5 BK200.out))
            go_meet
            case rel => exact ⟨_, H', ⟨by first | omega | exact Nat.le_refl _⟩, ⟨bK3 BK193.out⟩, ⟨bK3 BK200.out⟩, ⟨bR3 HB.out⟩⟩
           ·
            replace c38 := Bool.eq_false_iff.mpr c38
            subst c38
            rw [if_neg (show ¬ (false = true) by decide)] at H
            simp only [Option.some.injEq, Prod.mk.injEq] at H
            obtain ⟨rfl, rfl, rfl⟩ := H
            have hnb44 := NB193_200.out
            have hnc44 := NB200_193.out
            obtain ⟨hcz45_0, hcz45_1, hcz45_2, hcz45_3, hcz45_4, hcz45_5, hfz45_0, hfz45_1, hfz45_2, hfz45_3, hfz45_4, hfz45_5⟩ := cl6 BK193.out
            go_wp2_with (first | ((with_reducible refine gX_ 69 29 rfl rfl ?_); refine goesY_ (some 29) Try.func69 #[.agg #[.int .i64 a1_0, .bool a1_1, .int .i64 a1_2, .int .u64 a1_3, .int .u64 a1_4, .bool false]] ?_; (with_reducible refine (round_sound.calls k a1_0 a1_1 a1_2 a1_3 a1_4 false true _ A10.out).mono ?_); rintro e w46 ⟨rfl, hb⟩; refine ⟨_, rfl, ?_⟩; replace BK193 := Aside0.mk (bB (g := gb193) (o := .cells #[.int .i64 a1_0, .bool a1_1, .int .i64 a1_2, .int .u64 a1_3, .int .u64 a1_4, .bool false] 76 (0, 0)) (bQ3 BK193.out) hb); replace BK200 := Aside0.mk (bB (g := gb200) (o := .cells #[.int .i64 t194, .int .u64 t195, .int .u64 t196, .int .u64 t197, .int .i64 t198] 124 (0, 0)) (bQ3 BK200.out) hb); replace HB := Aside0.mk (bS3 HB.out hb); (try clear hb); (try clear hk); obtain ⟨hcz47_0, hcz47_1, hcz47_2, hcz47_3, hcz47_4, hcz47_5, hfz47_0, hfz47_1, hfz47_2, hfz47_3, hfz47_4, hfz47_5⟩ := cl6 BK193.out; obtain ⟨hcz48_0, hcz48_1, hcz48_2, hcz48_3, hcz48_4, hfz48_0, hfz48_1, hfz48_2, hfz48_3, hfz48_4⟩ := cl5 BK200.out))
            go_ret3
            exact ⟨eR3, bR3 HB.out⟩
          ·
           rw [if_neg c37] at H
           have c37b0 : (a1_4 == 0) = false := beq_eq_false_iff_ne.mpr c37
           have c37b1 : (a1_4 != 0) = true := bne_iff_ne.mpr c37
           have H' := Aside0.mk H
           clear H
           have hnb49 := NB193_200.out
           have hnc49 := NB200_193.out
           obtain ⟨hcz50_0, hcz50_1, hcz50_2, hcz50_3, hcz50_4, hcz50_5, hfz50_0, hfz50_1, hfz50_2, hfz50_3, hfz50_4, hfz50_5⟩ := cl6 BK193.out
           go_wp2_with (first | ((with_reducible refine gX_ 69 29 rfl rfl ?_); refine goesY_ (some 29) Try.func69 #[.agg #[.int .i64 a1_0, .bool a1_1, .int .i64 a1_2, .int .u64 a1_3, .int .u64 a1_4, .bool a1_5]] ?_; (with_reducible refine (round_sound.calls k a1_0 a1_1 a1_2 a1_3 a1_4 a1_5 true _ A10.out).mono ?_); rintro e w51 ⟨rfl, hb⟩; refine ⟨_, rfl, ?_⟩; replace BK193 := Aside0.mk (bB (g := gb193) (o := .cells #[.int .i64 a1_0, .bool a1_1, .int .i64 a1_2, .int .u64 a1_3, .int .u64 a1_4, .bool a1_5] 76 (0, 0)) (bQ3 BK193.out) hb); replace BK200 := Aside0.mk (bB (g := gb200) (o := .cells #[.int .i64 t194, .int .u64 t195, .int .u64 t196, .int .u64 t197, .int .i64 t198] 124 (0, 0)) (bQ3 BK200.out) hb); replace HB := Aside0.mk (bS3 HB.out hb); (try clear hb); (try clear hk); obtain ⟨hcz52_0, hcz52_1, hcz52_2, hcz52_3, hcz52_4, hcz52_5, hfz52_0, hfz52_1, hfz52_2, hfz52_3, hfz52_4, hfz52_5⟩ := cl6 BK193.out; obtain ⟨hcz53_0, hcz53_1, hcz53_2, hcz53_3, hcz53_4, hfz53_0, hfz53_1, hfz53_2, hfz53_3, hfz53_4⟩ := cl5 BK200.out))
           go_meet
           case rel => exact ⟨_, H', ⟨by first | omega | exact Nat.le_refl _⟩, ⟨bK3 BK193.out⟩, ⟨bK3 BK200.out⟩, ⟨bR3 HB.out⟩⟩
         ·
          rw [if_neg c36] at H
          have c36b0 : (a1_3 == 9223372036854775808) = false := beq_eq_false_iff_ne.mpr c36
          have c36b1 : (a1_3 != 9223372036854775808) = true := bne_iff_ne.mpr c36
          have H' := Aside0.mk H
          clear H
          have hnb54 := NB193_200.out
          have hnc54 := NB200_193.out
          obtain ⟨hcz55_0, hcz55_1, hcz55_2, hcz55_3, hcz55_4, hcz55_5, hfz55_0, hfz55_1, hfz55_2, hfz55_3, hfz55_4, hfz55_5⟩ := cl6 BK193.out
          go_wp2_with (first | ((with_reducible refine gX_ 69 29 rfl rfl ?_); refine goesY_ (some 29) Try.func69 #[.agg #[.int .i64 a1_0, .bool a1_1, .int .i64 a1_2, .int .u64 a1_3, .int .u64 a1_4, .bool a1_5]] ?_; (with_reducible refine (round_sound.calls k a1_0 a1_1 a1_2 a1_3 a1_4 a1_5 true _ A10.out).mono ?_); rintro e w56 ⟨rfl, hb⟩; refine ⟨_, rfl, ?_⟩; replace BK193 := Aside0.mk (bB (g := gb193) (o := .cells #[.int .i64 a1_0, .bool a1_1, .int .i64 a1_2, .int .u64 a1_3, .int .u64 a1_4, .bool a1_5] 76 (0, 0)) (bQ3 BK193.out) hb); replace BK200 := Aside0.mk (bB (g := gb200) (o := .cells #[.int .i64 t194, .int .u64 t195, .int .u64 t196, .int .u64 t197, .int .i64 t198] 124 (0, 0)) (bQ3 BK200.out) hb); replace HB := Aside0.mk (bS3 HB.out hb); (try clear hb); (try clear hk); obtain ⟨hcz57_0, hcz57_1, hcz57_2, hcz57_3, hcz57_4, hcz57_5, hfz57_0, hfz57_1, hfz57_2, hfz57_3, hfz57_4, hfz57_5⟩ := cl6 BK193.out; obtain ⟨hcz58_0, hcz58_1, hcz58_2, hcz58_3, hcz58_4, hfz58_0, hfz58_1, hfz58_2, hfz58_3, hfz58_4⟩ := cl5 BK200.out))
          go_meet
          case rel => exact ⟨_, H', ⟨by first | omega | exact Nat.le_refl _⟩, ⟨bK3 BK193.out⟩, ⟨bK3 BK200.out⟩, ⟨bR3 HB.out⟩⟩
        ·
         rw [if_neg c35] at H
         have c35b0 : (a1_2 == (wrap64 (-t198))) = false := beq_eq_false_iff_ne.mpr c35
         have c35b1 : (a1_2 != (wrap64 (-t198))) = true := bne_iff_ne.mpr c35
         have H' := Aside0.mk H
         clear H
         have hnb59 := NB193_200.out
         have hnc59 := NB200_193.out
         obtain ⟨hcz60_0, hcz60_1, hcz60_2, hcz60_3, hcz60_4, hcz60_5, hfz60_0, hfz60_1, hfz60_2, hfz60_3, hfz60_4, hfz60_5⟩ := cl6 BK193.out
         go_wp2_with (first | ((with_reducible refine gX_ 69 29 rfl rfl ?_); refine goesY_ (some 29) Try.func69 #[.agg #[.int .i64 a1_0, .bool a1_1, .int .i64 a1_2, .int .u64 a1_3, .int .u64 a1_4, .bool a1_5]] ?_; (with_reducible refine (round_sound.calls k a1_0 a1_1 a1_2 a1_3 a1_4 a1_5 true _ A10.out).mono ?_); rintro e w61 ⟨rfl, hb⟩; refine ⟨_, rfl, ?_⟩; replace BK193 := Aside0.mk (bB (g := gb193) (o := .cells #[.int .i64 a1_0, .bool a1_1, .int .i64 a1_2, .int .u64 a1_3, .int .u64 a1_4, .bool a1_5] 76 (0, 0)) (bQ3 BK193.out) hb); replace BK200 := Aside0.mk (bB (g := gb200) (o := .cells #[.int .i64 t194, .int .u64 t195, .int .u64 t196, .int .u64 t197, .int .i64 t198] 124 (0, 0)) (bQ3 BK200.out) hb); replace HB := Aside0.mk (bS3 HB.out hb); (try clear hb); (try clear hk); obtain ⟨hcz62_0, hcz62_1, hcz62_2, hcz62_3, hcz62_4, hcz62_5, hfz62_0, hfz62_1, hfz62_2, hfz62_3, hfz62_4, hfz62_5⟩ := cl6 BK193.out; obtain ⟨hcz63_0, hcz63_1, hcz63_2, hcz63_3, hcz63_4, hfz63_0, hfz63_1, hfz63_2, hfz63_3, hfz63_4⟩ := cl5 BK200.out))
         go_meet
         case rel => exact ⟨_, H', ⟨by first | omega | exact Nat.le_refl _⟩, ⟨bK3 BK193.out⟩, ⟨bK3 BK200.out⟩, ⟨bR3 HB.out⟩⟩
   ·
    replace c11 := Bool.eq_false_iff.mpr c11
    subst c11
    rw [if_neg (show ¬ (false = true) by decide)] at H
    simp only [Option.some.injEq, Prod.mk.injEq] at H
    obtain ⟨rfl, rfl, rfl⟩ := H
    have hnb64 := NB193_200.out
    have hnc64 := NB200_193.out
    obtain ⟨hcz65_0, hcz65_1, hcz65_2, hcz65_3, hcz65_4, hcz65_5, hfz65_0, hfz65_1, hfz65_2, hfz65_3, hfz65_4, hfz65_5⟩ := cl6 BK193.out
    go_wp2_with (first | ((with_reducible refine gX_ 69 29 rfl rfl ?_); refine goesY_ (some 29) Try.func69 #[.agg #[.int .i64 a1_0, .bool a1_1, .int .i64 a1_2, .int .u64 a1_3, .int .u64 a1_4, .bool a1_5]] ?_; (with_reducible refine (round_sound.calls k a1_0 a1_1 a1_2 a1_3 a1_4 a1_5 false _ A10.out).mono ?_); rintro e w66 ⟨rfl, hb⟩; refine ⟨_, rfl, ?_⟩; replace BK193 := Aside0.mk (bB (g := gb193) (o := .cells #[.int .i64 a1_0, .bool a1_1, .int .i64 a1_2, .int .u64 a1_3, .int .u64 a1_4, .bool a1_5] 76 (0, 0)) (bQ3 BK193.out) hb); replace BK200 := Aside0.mk (bB (g := gb200) (o := .cells #[.int .i64 t194, .int .u64 t195, .int .u64 t196, .int .u64 t197, .int .i64 t198] 124 (0, 0)) (bQ3 BK200.out) hb); replace HB := Aside0.mk (bS3 HB.out hb); (try clear hb); (try clear hk)))
    go_ret3
    exact ⟨eR3, bR3 HB.out⟩
  ·
   rw [if_neg (show ¬ (some q201).isNone = true by simp)] at H
   try simp only [Option.getD_some] at H
   try simp only [errW_none, errW_some]
   simp only [Option.some.injEq, Prod.mk.injEq] at H
   obtain ⟨rfl, rfl, rfl⟩ := H
   go_wp2
   go_ret3
   exact ⟨eR3, bR3 HB.out⟩
 case rest =>
  clear HC4
  try clear c1
  try clear c2
  try clear p2
  try clear q2
  try clear c3
  try clear c4
  try clear c5
  try clear c6
  try clear p6
  try clear c8
  try clear c11
  try clear c12
  try clear c12b0
  try clear c12b1
  try clear c13
  try clear c17
  try clear c17b0
  try clear c17b1
  try clear c18
  try clear q20
  try clear c23
  try clear c23b0
  try clear c24
  try clear c29
  try clear c29b0
  try clear c30
  try clear c35
  try clear c35b0
  try clear c35b1
  try clear c36
  try clear c36b0
  try clear c36b1
  try clear c37
  try clear c37b0
  try clear c37b1
  try clear c38
  try clear c39
  try clear c44
  try clear c49
  try clear c53
  try clear c54
  try clear c59
  try clear c64
  try clear p64
  try clear hcz14_0 hcz14_1 hcz14_2 hcz14_3 hcz14_4 hcz14_5
  try clear hcz16_0 hcz16_1 hcz16_2 hcz16_3 hcz16_4 hcz16_5
  try clear hcz19_0 hcz19_1 hcz19_2 hcz19_3 hcz19_4 hcz19_5
  try clear hcz21_0 hcz21_1 hcz21_2 hcz21_3 hcz21_4 hcz21_5
  try clear hcz22_0 hcz22_1 hcz22_2 hcz22_3 hcz22_4
  try clear hcz25_0 hcz25_1 hcz25_2 hcz25_3 hcz25_4 hcz25_5
  try clear hcz27_0 hcz27_1 hcz27_2 hcz27_3 hcz27_4 hcz27_5
  try clear hcz28_0 hcz28_1 hcz28_2 hcz28_3 hcz28_4
  try clear hcz31_0 hcz31_1 hcz31_2 hcz31_3 hcz31_4 hcz31_5
  try clear hcz33_0 hcz33_1 hcz33_2 hcz33_3 hcz33_4 hcz33_5
  try clear hcz34_0 hcz34_1 hcz34_2 hcz34_3 hcz34_4
  try clear hcz40_0 hcz40_1 hcz40_2 hcz40_3 hcz40_4 hcz40_5
  try clear hcz42_0 hcz42_1 hcz42_2 hcz42_3 hcz42_4 hcz42_5
  try clear hcz43_0 hcz43_1 hcz43_2 hcz43_3 hcz43_4
  try clear hcz45_0 hcz45_1 hcz45_2 hcz45_3 hcz45_4 hcz45_5
  try clear hcz47_0 hcz47_1 hcz47_2 hcz47_3 hcz47_4 hcz47_5
  try clear hcz48_0 hcz48_1 hcz48_2 hcz48_3 hcz48_4
  try clear hcz50_0 hcz50_1 hcz50_2 hcz50_3 hcz50_4 hcz50_5
  try clear hcz52_0 hcz52_1 hcz52_2 hcz52_3 hcz52_4 hcz52_5
  try clear hcz53_0 hcz53_1 hcz53_2 hcz53_3 hcz53_4
  try clear hcz55_0 hcz55_1 hcz55_2 hcz55_3 hcz55_4 hcz55_5
  try clear hcz57_0 hcz57_1 hcz57_2 hcz57_3 hcz57_4 hcz57_5
  try clear hcz58_0 hcz58_1 hcz58_2 hcz58_3 hcz58_4
  try clear hcz60_0 hcz60_1 hcz60_2 hcz60_3 hcz60_4 hcz60_5
  try clear hcz62_0 hcz62_1 hcz62_2 hcz62_3 hcz62_4 hcz62_5
  try clear hcz63_0 hcz63_1 hcz63_2 hcz63_3 hcz63_4
  try clear hcz65_0 hcz65_1 hcz65_2 hcz65_3 hcz65_4 hcz65_5
  try clear hcz9_0 hcz9_1 hcz9_2 hcz9_3 hcz9_4
  try clear hfz14_0 hfz14_1 hfz14_2 hfz14_3 hfz14_4 hfz14_5
  try clear hfz16_0 hfz16_1 hfz16_2 hfz16_3 hfz16_4 hfz16_5
  try clear hfz19_0 hfz19_1 hfz19_2 hfz19_3 hfz19_4 hfz19_5
  try clear hfz21_0 hfz21_1 hfz21_2 hfz21_3 hfz21_4 hfz21_5
  try clear hfz22_0 hfz22_1 hfz22_2 hfz22_3 hfz22_4
  try clear hfz25_0 hfz25_1 hfz25_2 hfz25_3 hfz25_4 hfz25_5
  try clear hfz27_0 hfz27_1 hfz27_2 hfz27_3 hfz27_4 hfz27_5
  try clear hfz28_0 hfz28_1 hfz28_2 hfz28_3 hfz28_4
  try clear hfz31_0 hfz31_1 hfz31_2 hfz31_3 hfz31_4 hfz31_5
  try clear hfz33_0 hfz33_1 hfz33_2 hfz33_3 hfz33_4 hfz33_5
  try clear hfz34_0 hfz34_1 hfz34_2 hfz34_3 hfz34_4
  try clear hfz40_0 hfz40_1 hfz40_2 hfz40_3 hfz40_4 hfz40_5
  try clear hfz42_0 hfz42_1 hfz42_2 hfz42_3 hfz42_4 hfz42_5
  try clear hfz43_0 hfz43_1 hfz43_2 hfz43_3 hfz43_4
  try clear hfz45_0 hfz45_1 hfz45_2 hfz45_3 hfz45_4 hfz45_5
  try clear hfz47_0 hfz47_1 hfz47_2 hfz47_3 hfz47_4 hfz47_5
  try clear hfz48_0 hfz48_1 hfz48_2 hfz48_3 hfz48_4
  try clear hfz50_0 hfz50_1 hfz50_2 hfz50_3 hfz50_4 hfz50_5
  try clear hfz52_0 hfz52_1 hfz52_2 hfz52_3 hfz52_4 hfz52_5
  try clear hfz53_0 hfz53_1 hfz53_2 hfz53_3 hfz53_4
  try clear hfz55_0 hfz55_1 hfz55_2 hfz55_3 hfz55_4 hfz55_5
  try clear hfz57_0 hfz57_1 hfz57_2 hfz57_3 hfz57_4 hfz57_5
  try clear hfz58_0 hfz58_1 hfz58_2 hfz58_3 hfz58_4
  try clear hfz60_0 hfz60_1 hfz60_2 hfz60_3 hfz60_4 hfz60_5
  try clear hfz62_0 hfz62_1 hfz62_2 hfz62_3 hfz62_4 hfz62_5
  try clear hfz63_0 hfz63_1 hfz63_2 hfz63_3 hfz63_4
  try clear hfz65_0 hfz65_1 hfz65_2 hfz65_3 hfz65_4 hfz65_5
  try clear hfz9_0 hfz9_1 hfz9_2 hfz9_3 hfz9_4
  try clear q201
  obtain ⟨kq, HA, HJ3, BK193, BK200, HB⟩ := hcut
  cases kq with
  | zero => exact absurd HA.out (by simp [round_Cut.j0])
  | succ kj3 =>
   have H := HA.out
   clear HA
   simp only [round_Cut.j0] at H
   replace H := Option.bind_eq_some_iff.mp H
   obtain ⟨⟨t203, t204, t205, t206⟩, A670, H⟩ := H
   try dsimp -simprocs only at H
   have A67 := Aside0.mk A670
   clear A670
   replace H := Option.bind_eq_some_iff.mp H
   obtain ⟨⟨t208, t209, t210⟩, A680, H⟩ := H
   try dsimp -simprocs only at H
   have A68 := Aside0.mk A680
   clear A680
   have HC69 := Aside0.mk H
   clear H
   have hnb70 := NB193_200.out
   have hnc70 := NB200_193.out
   obtain ⟨hcz71_0, hcz71_1, hcz71_2, hcz71_3, hcz71_4, hcz71_5, hfz71_0, hfz71_1, hfz71_2, hfz71_3, hfz71_4, hfz71_5⟩ := cl6 BK193.out
   go_upto_if 106 with (first | ((with_reducible refine gX_ 70 86 rfl rfl ?_); refine goesY_ (some 86) Try.func70 #[.agg #[.int .u64 a1_3, .int .u64 a1_4], .int .i64 1] ?_; (with_reducible refine (twin_Shl.calls kj3 a1_3 a1_4 1 t203 t204 t205 t206 _ A67.out).mono ?_); rintro e w72 ⟨rfl, hb⟩; refine ⟨_, rfl, ?_⟩; replace BK193 := Aside0.mk (bB3 BK193.out hb); replace BK200 := Aside0.mk (bB3 BK200.out hb); replace HB := Aside0.mk (bS3 HB.out hb); (try clear hb); (try clear hk); (try simp only [errW_none, errW_some])) | ((with_reducible refine gD (N := 9) rfl ?_); refine bE3 9 #[.int .u64 0, .int .u64 0] 100 ?hr ?_; (case hr => first | (go_simp; done) | (go_simp; rfl)); intro gb207 hg w73 hbox hb; have BK207 := Aside0.mk (hbox); have GW207 := Aside0.mk ((bZ3 hg HB.out)); have GE207 := Aside0.mk ((bZ3 hg HB.out)); replace HB := Aside0.mk (bS3 HB.out hb); have NB193_207 := Aside0.mk ((bL3 hg BK193.out)); have NB207_193 := Aside0.mk ((bG3 hg BK193.out)); replace BK193 := Aside0.mk (bB3 BK193.out hb); have NB200_207 := Aside0.mk ((bL3 hg BK200.out)); have NB207_200 := Aside0.mk ((bG3 hg BK200.out)); replace BK200 := Aside0.mk (bB3 BK200.out hb); clear hb hbox hg; have hnb74 := NB207_193.out; have hnc74 := NB193_207.out; have hnb75 := NB207_200.out; have hnc75 := NB200_207.out; obtain ⟨hcz76_0, hcz76_1, hfz76_0, hfz76_1⟩ := cl2 BK207.out; obtain ⟨hcz77_0, hcz77_1, hcz77_2, hcz77_3, hcz77_4, hcz77_5, hfz77_0, hfz77_1, hfz77_2, hfz77_3, hfz77_4, hfz77_5⟩ := cl6 BK193.out) | ((with_reducible refine gX_ 71 102 rfl rfl ?_); refine goesY_ (some 102) Try.func71 #[.agg #[.int .u64 t203, .int .u64 t204], .int .u64 (IntKind.u64.wrap (Go.bits .and .i64 a1_2 3)), .int .i64 2, .bool a1_5] ?_; (with_reducible refine (round_under.calls t203 t204 (IntKind.u64.wrap (Go.bits .and .i64 a1_2 3)) 2 a1_5 t208 t209 t210 _ A68.out).mono ?_); rintro e w78 ⟨rfl, hb⟩; refine ⟨_, rfl, ?_⟩; replace BK193 := Aside0.mk (bB (g := gb193) (o := .cells #[.int .i64 a1_0, .bool a1_1, .int .i64 a1_2, .int .u64 a1_3, .int .u64 a1_4, .bool a1_5] 76 (0, 0)) (bQ3 BK193.out) hb); replace BK200 := Aside0.mk (bB (g := gb200) (o := .cells #[.int .i64 t194, .int .u64 t195, .int .u64 t196, .int .u64 t197, .int .i64 t198] 124 (0, 0)) (bQ3 BK200.out) hb); replace BK207 := Aside0.mk (bB (g := gb207) (o := .cells #[.int .u64 t203, .int .u64 t204] 100 (0, 0)) (bQ3 BK207.out) hb); replace HB := Aside0.mk (bS3 HB.out hb); (try clear hb); (try clear hk); obtain ⟨hcz79_0, hcz79_1, hfz79_0, hfz79_1⟩ := cl2 BK207.out))
   (try simp only [Act.put, lS_, lZ_, lC_])
   go_cut [12] (fun v12 wc => ∃ (kq : Nat) (x12_68 : Bool) (x208000_68 : Int) (x208001_68 : Int), v12 = .bool x12_68 ∧ Aside0 (round_Cut.j3 kq a0 x12_68 x208000_68 x208001_68 = some (r1, r2, r3)) ∧ Aside0 (kq ≤ kj3) ∧ Aside0 (wc.heap[gb193]? = some (.cells #[.int .i64 a1_0, .bool a1_1, .int .i64 a1_2, .int .u64 a1_3, .int .u64 a1_4, .bool a1_5] 76 (0, 0))) ∧ Aside0 (wc.heap[gb200]? = some (.cells #[.int .i64 t194, .int .u64 t195, .int .u64 t196, .int .u64 t197, .int .i64 t198] 124 (0, 0))) ∧ Aside0 (wc.heap[gb207]? = some (.cells #[.int .u64 x208000_68, .int .u64 x208001_68] 100 (0, 0))) ∧ Aside0 (Below w.heap.size w wc))
   case first =>
    have H := HC69.out
    clear HC69
    by_cases c80 : (a1_2 / 4) ≥ 0
    ·
     rw [if_pos c80] at H
     have c80b0 : decide (0 ≤ (a1_2 / 4)) = true := decide_eq_true c80
     clear c80
     (first | rw [c80b0] | (simp only [i64_w, i32_w]; rw [c80b0]) | skip)
     replace H := Option.bind_eq_some_iff.mp H
     obtain ⟨⟨t211, t212, t213⟩, A810, H⟩ := H
     try dsimp -simprocs only at H
     have A81 := Aside0.mk A810
     clear A810
     have H' := Aside0.mk H
     clear H
     have hnb82 := NB207_193.out
     have hnc82 := NB193_207.out
     have hnb83 := NB207_200.out
     have hnc83 := NB200_207.out
     obtain ⟨hcz84_0, hcz84_1, hfz84_0, hfz84_1⟩ := cl2 BK207.out
     go_wp2_with (first | ((with_reducible refine gX_ 71 110 rfl rfl ?_); refine goesY_ (some 110) Try.func71 #[.agg #[.int .u64 t208, .int .u64 t209], .int .u64 0, .int .i64 1, .bool t210] ?_; (with_reducible refine (round_under.calls t208 t209 0 1 t210 t211 t212 t213 _ A81.out).mono ?_); rintro e w85 ⟨rfl, hb⟩; refine ⟨_, rfl, ?_⟩; replace BK193 := Aside0.mk (bB (g := gb193) (o := .cells #[.int .i64 a1_0, .bool a1_1, .int .i64 a1_2, .int .u64 a1_3, .int .u64 a1_4, .bool a1_5] 76 (0, 0)) (bQ3 BK193.out) hb); replace BK200 := Aside0.mk (bB (g := gb200) (o := .cells #[.int .i64 t194, .int .u64 t195, .int .u64 t196, .int .u64 t197, .int .i64 t198] 124 (0, 0)) (bQ3 BK200.out) hb); replace BK207 := Aside0.mk (bB (g := gb207) (o := .cells #[.int .u64 t208, .int .u64 t209] 100 (0, 0)) (bQ3 BK207.out) hb); replace HB := Aside0.mk (bS3 HB.out hb); (try clear hb); (try clear hk); obtain ⟨hcz86_0, hcz86_1, hfz86_0, hfz86_1⟩ := cl2 BK207.out))
     go_loopg [12, 115] kj3 (fun kq v12 v115 w' => ∃ (x12_2 : Bool) (x115_2 : Int) (x208000_2 : Int) (x208001_2 : Int), v12 = .bool x12_2 ∧ v115 = .int .i64 x115_2 ∧ Aside0 (round_Cut.l0 kq a0 x12_2 (wrap64 ((a1_2 / 4) + 1)) x115_2 x208000_2 x208001_2 = some (r1, r2, r3)) ∧ Aside0 (kq ≤ kj3) ∧ Aside0 (w'.heap[gb193]? = some (.cells #[.int .i64 a1_0, .bool a1_1, .int .i64 a1_2, .int .u64 a1_3, .int .u64 a1_4, .bool a1_5] 76 (0, 0))) ∧ Aside0 (w'.heap[gb200]? = some (.cells #[.int .i64 t194, .int .u64 t195, .int .u64 t196, .int .u64 t197, .int .i64 t198] 124 (0, 0))) ∧ Aside0 (w'.heap[gb207]? = some (.cells #[.int .u64 x208000_2, .int .u64 x208001_2] 100 (0, 0))) ∧ Aside0 (Below w.heap.size w w'))
     case atStart => exact ⟨(t213), (0), (t211), (t212), (by first | rfl | (simp; done) | (simp [*]; done)), (by first | rfl | (simp; done) | (simp [*]; done)), H', ⟨Nat.le_refl _⟩, ⟨bQ3 BK193.out⟩, ⟨bQ3 BK200.out⟩, ⟨bQ3 BK207.out⟩, ⟨bR3 HB.out⟩⟩
     case round =>
      clear H'
      try clear c1
      try clear c2
      try clear p2
      try clear q2
      try clear c3
      try clear c4
      try clear c5
      try clear c6
      try clear p6
      try clear c7
      try clear c8
      try clear c11
      try clear c12
      try clear c12b0
      try clear c12b1
      try clear c13
      try clear c17
      try clear c17b0
      try clear c17b1
      try clear c18
      try clear q20
      try clear c23
      try clear c23b0
      try clear c24
      try clear c29
      try clear c29b0
      try clear c30
      try clear c35
      try clear c35b0
      try clear c35b1
      try clear c36
      try clear c36b0
      try clear c36b1
      try clear c37
      try clear c37b0
      try clear c37b1
      try clear c38
      try clear c39
      try clear c44
      try clear c49
      try clear c53
      try clear c54
      try clear c59
      try clear c64
      try clear p64
      try clear c69
      try clear c70
      try clear c71
      try clear c74
      try clear c75
      try clear c80
      try clear c80b0
      try clear c82
      try clear c83
      try clear hcz14_0 hcz14_1 hcz14_2 hcz14_3 hcz14_4 hcz14_5
      try clear hcz16_0 hcz16_1 hcz16_2 hcz16_3 hcz16_4 hcz16_5
      try clear hcz19_0 hcz19_1 hcz19_2 hcz19_3 hcz19_4 hcz19_5
      try clear hcz21_0 hcz21_1 hcz21_2 hcz21_3 hcz21_4 hcz21_5
      try clear hcz22_0 hcz22_1 hcz22_2 hcz22_3 hcz22_4
      try clear hcz25_0 hcz25_1 hcz25_2 hcz25_3 hcz25_4 hcz25_5
      try clear hcz27_0 hcz27_1 hcz27_2 hcz27_3 hcz27_4 hcz27_5
      try clear hcz28_0 hcz28_1 hcz28_2 hcz28_3 hcz28_4
      try clear hcz31_0 hcz31_1 hcz31_2 hcz31_3 hcz31_4 hcz31_5
      try clear hcz33_0 hcz33_1 hcz33_2 hcz33_3 hcz33_4 hcz33_5
      try clear hcz34_0 hcz34_1 hcz34_2 hcz34_3 hcz34_4
      try clear hcz40_0 hcz40_1 hcz40_2 hcz40_3 hcz40_4 hcz40_5
      try clear hcz42_0 hcz42_1 hcz42_2 hcz42_3 hcz42_4 hcz42_5
      try clear hcz43_0 hcz43_1 hcz43_2 hcz43_3 hcz43_4
      try clear hcz45_0 hcz45_1 hcz45_2 hcz45_3 hcz45_4 hcz45_5
      try clear hcz47_0 hcz47_1 hcz47_2 hcz47_3 hcz47_4 hcz47_5
      try clear hcz48_0 hcz48_1 hcz48_2 hcz48_3 hcz48_4
      try clear hcz50_0 hcz50_1 hcz50_2 hcz50_3 hcz50_4 hcz50_5
      try clear hcz52_0 hcz52_1 hcz52_2 hcz52_3 hcz52_4 hcz52_5
      try clear hcz53_0 hcz53_1 hcz53_2 hcz53_3 hcz53_4
      try clear hcz55_0 hcz55_1 hcz55_2 hcz55_3 hcz55_4 hcz55_5
      try clear hcz57_0 hcz57_1 hcz57_2 hcz57_3 hcz57_4 hcz57_5
      try clear hcz58_0 hcz58_1 hcz58_2 hcz58_3 hcz58_4
      try clear hcz60_0 hcz60_1 hcz60_2 hcz60_3 hcz60_4 hcz60_5
      try clear hcz62_0 hcz62_1 hcz62_2 hcz62_3 hcz62_4 hcz62_5
      try clear hcz63_0 hcz63_1 hcz63_2 hcz63_3 hcz63_4
      try clear hcz65_0 hcz65_1 hcz65_2 hcz65_3 hcz65_4 hcz65_5
      try clear hcz71_0 hcz71_1 hcz71_2 hcz71_3 hcz71_4 hcz71_5
      try clear hcz76_0 hcz76_1
      try clear hcz77_0 hcz77_1 hcz77_2 hcz77_3 hcz77_4 hcz77_5
      try clear hcz79_0 hcz79_1
      try clear hcz84_0 hcz84_1
      try clear hcz86_0 hcz86_1
      try clear hcz9_0 hcz9_1 hcz9_2 hcz9_3 hcz9_4
      try clear hfz14_0 hfz14_1 hfz14_2 hfz14_3 hfz14_4 hfz14_5
      try clear hfz16_0 hfz16_1 hfz16_2 hfz16_3 hfz16_4 hfz16_5
      try clear hfz19_0 hfz19_1 hfz19_2 hfz19_3 hfz19_4 hfz19_5
      try clear hfz21_0 hfz21_1 hfz21_2 hfz21_3 hfz21_4 hfz21_5
      try clear hfz22_0 hfz22_1 hfz22_2 hfz22_3 hfz22_4
      try clear hfz25_0 hfz25_1 hfz25_2 hfz25_3 hfz25_4 hfz25_5
      try clear hfz27_0 hfz27_1 hfz27_2 hfz27_3 hfz27_4 hfz27_5
      try clear hfz28_0 hfz28_1 hfz28_2 hfz28_3 hfz28_4
      try clear hfz31_0 hfz31_1 hfz31_2 hfz31_3 hfz31_4 hfz31_5
      try clear hfz33_0 hfz33_1 hfz33_2 hfz33_3 hfz33_4 hfz33_5
      try clear hfz34_0 hfz34_1 hfz34_2 hfz34_3 hfz34_4
      try clear hfz40_0 hfz40_1 hfz40_2 hfz40_3 hfz40_4 hfz40_5
      try clear hfz42_0 hfz42_1 hfz42_2 hfz42_3 hfz42_4 hfz42_5
      try clear hfz43_0 hfz43_1 hfz43_2 hfz43_3 hfz43_4
      try clear hfz45_0 hfz45_1 hfz45_2 hfz45_3 hfz45_4 hfz45_5
      try clear hfz47_0 hfz47_1 hfz47_2 hfz47_3 hfz47_4 hfz47_5
      try clear hfz48_0 hfz48_1 hfz48_2 hfz48_3 hfz48_4
      try clear hfz50_0 hfz50_1 hfz50_2 hfz50_3 hfz50_4 hfz50_5
      try clear hfz52_0 hfz52_1 hfz52_2 hfz52_3 hfz52_4 hfz52_5
      try clear hfz53_0 hfz53_1 hfz53_2 hfz53_3 hfz53_4
      try clear hfz55_0 hfz55_1 hfz55_2 hfz55_3 hfz55_4 hfz55_5
      try clear hfz57_0 hfz57_1 hfz57_2 hfz57_3 hfz57_4 hfz57_5
      try clear hfz58_0 hfz58_1 hfz58_2 hfz58_3 hfz58_4
      try clear hfz60_0 hfz60_1 hfz60_2 hfz60_3 hfz60_4 hfz60_5
      try clear hfz62_0 hfz62_1 hfz62_2 hfz62_3 hfz62_4 hfz62_5
      try clear hfz63_0 hfz63_1 hfz63_2 hfz63_3 hfz63_4
      try clear hfz65_0 hfz65_1 hfz65_2 hfz65_3 hfz65_4 hfz65_5
      try clear hfz71_0 hfz71_1 hfz71_2 hfz71_3 hfz71_4 hfz71_5
      try clear hfz76_0 hfz76_1
      try clear hfz77_0 hfz77_1 hfz77_2 hfz77_3 hfz77_4 hfz77_5
      try clear hfz79_0 hfz79_1
      try clear hfz84_0 hfz84_1
      try clear hfz86_0 hfz86_1
      try clear hfz9_0 hfz9_1 hfz9_2 hfz9_3 hfz9_4
      try clear p2
      try clear p6
      try clear p64
      try clear q2
      try clear q20
      try clear q201
      obtain ⟨x12_2, x115_2, x208000_2, x208001_2, rfl, rfl, HA, HK2, BK193, BK200, BK207, HB⟩ := hrel
      cases gk with
      | zero => exact absurd HA.out (by simp [round_Cut.l0])
      | succ k2 =>
       have H := HA.out
       clear HA
       simp only [round_Cut.l0] at H
       by_cases c87 : x115_2 < (wrap64 ((a1_2 / 4) + 1))
       ·
        rw [if_pos c87] at H
        have c87b0 : decide (x115_2 < (wrap64 ((a1_2 / 4) + 1))) = true := decide_eq_true c87
        clear c87
        replace H := Option.bind_eq_some_iff.mp H
        obtain ⟨⟨t214, t215, t216⟩, A880, H⟩ := H
        try dsimp -simprocs only at H
        have A88 := Aside0.mk A880
        clear A880
        have H' := Aside0.mk H
        clear H
        have hnb89 := NB207_193.out
        have hnc89 := NB193_207.out
        have hnb90 := NB207_200.out
        have hnc90 := NB200_207.out
        obtain ⟨hcz91_0, hcz91_1, hfz91_0, hfz91_1⟩ := cl2 BK207.out
        go_wp2_with (first | ((with_reducible refine gX_ 71 120 rfl rfl ?_); refine goesY_ (some 120) Try.func71 #[.agg #[.int .u64 x208000_2, .int .u64 x208001_2], .int .u64 1, .int .i64 1, .bool x12_2] ?_; (with_reducible refine (round_under.calls x208000_2 x208001_2 1 1 x12_2 t214 t215 t216 _ A88.out).mono ?_); rintro e w92 ⟨rfl, hb⟩; refine ⟨_, rfl, ?_⟩; replace BK193 := Aside0.mk (bB3 BK193.out hb); replace BK200 := Aside0.mk (bB3 BK200.out hb); replace BK207 := Aside0.mk (bB3 BK207.out hb); replace HB := Aside0.mk (bS3 HB.out hb); (try clear hb); (try clear hk); obtain ⟨hcz93_0, hcz93_1, hfz93_0, hfz93_1⟩ := cl2 BK207.out))
        go_roundg k2
        case measure => have := HJ3.out; have := HK2.out; omega
        case rel => exact ⟨(t216), (wrap64 (x115_2 + 1)), (t214), (t215), (by first | rfl | (simp; done) | (simp [*]; done)), (by first | rfl | (simp; done) | (simp [*]; done)), H', ⟨by have := HJ3.out; have := HK2.out; omega⟩, ⟨bQ3 BK193.out⟩, ⟨bQ3 BK200.out⟩, ⟨bQ3 BK207.out⟩, ⟨bR3 HB.out⟩⟩
       ·
        rw [if_neg c87] at H
        have c87b0 : decide (x115_2 < (wrap64 ((a1_2 / 4) + 1))) = false := decide_eq_false c87
        clear c87
        have H' := Aside0.mk H
        clear H
        go_wp2
        go_meet
        case rel => exact ⟨_, (x12_2), (x208000_2), (x208001_2), (by first | rfl | (simp; done) | (simp [*]; done)), H', ⟨by have := HJ3.out; have := HK2.out; first | omega | exact Nat.le_refl _⟩, ⟨bK3 BK193.out⟩, ⟨bK3 BK200.out⟩, ⟨bK3 BK207.out⟩, ⟨bR3 HB.out⟩⟩
    ·
     rw [if_neg c80] at H
     have c80b0 : decide (0 ≤ (a1_2 / 4)) = false := decide_eq_false c80
     clear c80
     (first | rw [c80b0] | (simp only [i64_w, i32_w]; rw [c80b0]) | skip)
     replace H := Option.bind_eq_some_iff.mp H
     obtain ⟨⟨t217, t218, t219⟩, A940, H⟩ := H
     try dsimp -simprocs only at H
     have A94 := Aside0.mk A940
     clear A940
     have H' := Aside0.mk H
     clear H
     have hnb95 := NB207_193.out
     have hnc95 := NB193_207.out
     have hnb96 := NB207_200.out
     have hnc96 := NB200_207.out
     obtain ⟨hcz97_0, hcz97_1, hfz97_0, hfz97_1⟩ := cl2 BK207.out
     go_wp2_with (first | ((with_reducible refine gX_ 71 127 rfl rfl ?_); refine goesY_ (some 127) Try.func71 #[.agg #[.int .u64 t208, .int .u64 t209], .int .u64 1, .int .i64 1, .bool t210] ?_; (with_reducible refine (round_under.calls t208 t209 1 1 t210 t217 t218 t219 _ A94.out).mono ?_); rintro e w98 ⟨rfl, hb⟩; refine ⟨_, rfl, ?_⟩; replace BK193 := Aside0.mk (bB (g := gb193) (o := .cells #[.int .i64 a1_0, .bool a1_1, .int .i64 a1_2, .int .u64 a1_3, .int .u64 a1_4, .bool a1_5] 76 (0, 0)) (bQ3 BK193.out) hb); replace BK200 := Aside0.mk (bB (g := gb200) (o := .cells #[.int .i64 t194, .int .u64 t195, .int .u64 t196, .int .u64 t197, .int .i64 t198] 124 (0, 0)) (bQ3 BK200.out) hb); replace BK207 := Aside0.mk (bB (g := gb207) (o := .cells #[.int .u64 t208, .int .u64 t209] 100 (0, 0)) (bQ3 BK207.out) hb); replace HB := Aside0.mk (bS3 HB.out hb); (try clear hb); (try clear hk); obtain ⟨hcz99_0, hcz99_1, hfz99_0, hfz99_1⟩ := cl2 BK207.out))
     go_loopg [12, 132] kj3 (fun kq v12 v132 w' => ∃ (x12_2 : Bool) (x132_2 : Int) (x208000_2 : Int) (x208001_2 : Int), v12 = .bool x12_2 ∧ v132 = .int .i64 x132_2 ∧ Aside0 (round_Cut.l1 kq a0 x12_2 (wrap64 (-(a1_2 / 4))) x132_2 x208000_2 x208001_2 = some (r1, r2, r3)) ∧ Aside0 (kq ≤ kj3) ∧ Aside0 (w'.heap[gb193]? = some (.cells #[.int .i64 a1_0, .bool a1_1, .int .i64 a1_2, .int .u64 a1_3, .int .u64 a1_4, .bool a1_5] 76 (0, 0))) ∧ Aside0 (w'.heap[gb200]? = some (.cells #[.int .i64 t194, .int .u64 t195, .int .u64 t196, .int .u64 t197, .int .i64 t198] 124 (0, 0))) ∧ Aside0 (w'.heap[gb207]? = some (.cells #[.int .u64 x208000_2, .int .u64 x208001_2] 100 (0, 0))) ∧ Aside0 (Below w.heap.size w w'))
     case atStart => exact ⟨(t219), (0), (t217), (t218), (by first | rfl | (simp; done) | (simp [*]; done)), (by first | rfl | (simp; done) | (simp [*]; done)), H', ⟨Nat.le_refl _⟩, ⟨bQ3 BK193.out⟩, ⟨bQ3 BK200.out⟩, ⟨bQ3 BK207.out⟩, ⟨bR3 HB.out⟩⟩
     case round =>
      clear H'
      try clear c1
      try clear c2
      try clear p2
      try clear q2
      try clear c3
      try clear c4
      try clear c5
      try clear c6
      try clear p6
      try clear c7
      try clear c8
      try clear c9
      try clear c11
      try clear c12
      try clear c12b0
      try clear c12b1
      try clear c13
      try clear c17
      try clear c17b0
      try clear c17b1
      try clear c18
      try clear q20
      try clear c23
      try clear c23b0
      try clear c24
      try clear c29
      try clear c29b0
      try clear c30
      try clear c35
      try clear c35b0
      try clear c35b1
      try clear c36
      try clear c36b0
      try clear c36b1
      try clear c37
      try clear c37b0
      try clear c37b1
      try clear c38
      try clear c39
      try clear c44
      try clear c49
      try clear c53
      try clear c54
      try clear c59
      try clear c64
      try clear p64
      try clear c69
      try clear c70
      try clear c71
      try clear c74
      try clear c75
      try clear c80
      try clear c80b0
      try clear c82
      try clear c83
      try clear c87
      try clear c87b0
      try clear c89
      try clear c90
      try clear c95
      try clear c96
      try clear hcz14_0 hcz14_1 hcz14_2 hcz14_3 hcz14_4 hcz14_5
      try clear hcz16_0 hcz16_1 hcz16_2 hcz16_3 hcz16_4 hcz16_5
      try clear hcz19_0 hcz19_1 hcz19_2 hcz19_3 hcz19_4 hcz19_5
      try clear hcz21_0 hcz21_1 hcz21_2 hcz21_3 hcz21_4 hcz21_5
      try clear hcz22_0 hcz22_1 hcz22_2 hcz22_3 hcz22_4
      try clear hcz25_0 hcz25_1 hcz25_2 hcz25_3 hcz25_4 hcz25_5
      try clear hcz27_0 hcz27_1 hcz27_2 hcz27_3 hcz27_4 hcz27_5
      try clear hcz28_0 hcz28_1 hcz28_2 hcz28_3 hcz28_4
      try clear hcz31_0 hcz31_1 hcz31_2 hcz31_3 hcz31_4 hcz31_5
      try clear hcz33_0 hcz33_1 hcz33_2 hcz33_3 hcz33_4 hcz33_5
      try clear hcz34_0 hcz34_1 hcz34_2 hcz34_3 hcz34_4
      try clear hcz40_0 hcz40_1 hcz40_2 hcz40_3 hcz40_4 hcz40_5
      try clear hcz42_0 hcz42_1 hcz42_2 hcz42_3 hcz42_4 hcz42_5
      try clear hcz43_0 hcz43_1 hcz43_2 hcz43_3 hcz43_4
      try clear hcz45_0 hcz45_1 hcz45_2 hcz45_3 hcz45_4 hcz45_5
      try clear hcz47_0 hcz47_1 hcz47_2 hcz47_3 hcz47_4 hcz47_5
      try clear hcz48_0 hcz48_1 hcz48_2 hcz48_3 hcz48_4
      try clear hcz50_0 hcz50_1 hcz50_2 hcz50_3 hcz50_4 hcz50_5
      try clear hcz52_0 hcz52_1 hcz52_2 hcz52_3 hcz52_4 hcz52_5
      try clear hcz53_0 hcz53_1 hcz53_2 hcz53_3 hcz53_4
      try clear hcz55_0 hcz55_1 hcz55_2 hcz55_3 hcz55_4 hcz55_5
      try clear hcz57_0 hcz57_1 hcz57_2 hcz57_3 hcz57_4 hcz57_5
      try clear hcz58_0 hcz58_1 hcz58_2 hcz58_3 hcz58_4
      try clear hcz60_0 hcz60_1 hcz60_2 hcz60_3 hcz60_4 hcz60_5
      try clear hcz62_0 hcz62_1 hcz62_2 hcz62_3 hcz62_4 hcz62_5
      try clear hcz63_0 hcz63_1 hcz63_2 hcz63_3 hcz63_4
      try clear hcz65_0 hcz65_1 hcz65_2 hcz65_3 hcz65_4 hcz65_5
      try clear hcz71_0 hcz71_1 hcz71_2 hcz71_3 hcz71_4 hcz71_5
      try clear hcz76_0 hcz76_1
      try clear hcz77_0 hcz77_1 hcz77_2 hcz77_3 hcz77_4 hcz77_5
      try clear hcz79_0 hcz79_1
      try clear hcz84_0 hcz84_1
      try clear hcz86_0 hcz86_1
      try clear hcz91_0 hcz91_1
      try clear hcz93_0 hcz93_1
      try clear hcz97_0 hcz97_1
      try clear hcz99_0 hcz99_1
      try clear hcz9_0 hcz9_1 hcz9_2 hcz9_3 hcz9_4
      try clear hfz14_0 hfz14_1 hfz14_2 hfz14_3 hfz14_4 hfz14_5
      try clear hfz16_0 hfz16_1 hfz16_2 hfz16_3 hfz16_4 hfz16_5
      try clear hfz19_0 hfz19_1 hfz19_2 hfz19_3 hfz19_4 hfz19_5
      try clear hfz21_0 hfz21_1 hfz21_2 hfz21_3 hfz21_4 hfz21_5
      try clear hfz22_0 hfz22_1 hfz22_2 hfz22_3 hfz22_4
      try clear hfz25_0 hfz25_1 hfz25_2 hfz25_3 hfz25_4 hfz25_5
      try clear hfz27_0 hfz27_1 hfz27_2 hfz27_3 hfz27_4 hfz27_5
      try clear hfz28_0 hfz28_1 hfz28_2 hfz28_3 hfz28_4
      try clear hfz31_0 hfz31_1 hfz31_2 hfz31_3 hfz31_4 hfz31_5
      try clear hfz33_0 hfz33_1 hfz33_2 hfz33_3 hfz33_4 hfz33_5
      try clear hfz34_0 hfz34_1 hfz34_2 hfz34_3 hfz34_4
      try clear hfz40_0 hfz40_1 hfz40_2 hfz40_3 hfz40_4 hfz40_5
      try clear hfz42_0 hfz42_1 hfz42_2 hfz42_3 hfz42_4 hfz42_5
      try clear hfz43_0 hfz43_1 hfz43_2 hfz43_3 hfz43_4
      try clear hfz45_0 hfz45_1 hfz45_2 hfz45_3 hfz45_4 hfz45_5
      try clear hfz47_0 hfz47_1 hfz47_2 hfz47_3 hfz47_4 hfz47_5
      try clear hfz48_0 hfz48_1 hfz48_2 hfz48_3 hfz48_4
      try clear hfz50_0 hfz50_1 hfz50_2 hfz50_3 hfz50_4 hfz50_5
      try clear hfz52_0 hfz52_1 hfz52_2 hfz52_3 hfz52_4 hfz52_5
      try clear hfz53_0 hfz53_1 hfz53_2 hfz53_3 hfz53_4
      try clear hfz55_0 hfz55_1 hfz55_2 hfz55_3 hfz55_4 hfz55_5
      try clear hfz57_0 hfz57_1 hfz57_2 hfz57_3 hfz57_4 hfz57_5
      try clear hfz58_0 hfz58_1 hfz58_2 hfz58_3 hfz58_4
      try clear hfz60_0 hfz60_1 hfz60_2 hfz60_3 hfz60_4 hfz60_5
      try clear hfz62_0 hfz62_1 hfz62_2 hfz62_3 hfz62_4 hfz62_5
      try clear hfz63_0 hfz63_1 hfz63_2 hfz63_3 hfz63_4
      try clear hfz65_0 hfz65_1 hfz65_2 hfz65_3 hfz65_4 hfz65_5
      try clear hfz71_0 hfz71_1 hfz71_2 hfz71_3 hfz71_4 hfz71_5
      try clear hfz76_0 hfz76_1
      try clear hfz77_0 hfz77_1 hfz77_2 hfz77_3 hfz77_4 hfz77_5
      try clear hfz79_0 hfz79_1
      try clear hfz84_0 hfz84_1
      try clear hfz86_0 hfz86_1
      try clear hfz91_0 hfz91_1
      try clear hfz93_0 hfz93_1
      try clear hfz97_0 hfz97_1
      try clear hfz99_0 hfz99_1
      try clear hfz9_0 hfz9_1 hfz9_2 hfz9_3 hfz9_4
      try clear p2
      try clear p6
      try clear p64
      try clear q2
      try clear q20
      try clear q201
      obtain ⟨x12_2, x132_2, x208000_2, x208001_2, rfl, rfl, HA, HK2, BK193, BK200, BK207, HB⟩ := hrel
      cases gk with
      | zero => exact absurd HA.out (by simp [round_Cut.l1])
      | succ k2 =>
       have H := HA.out
       clear HA
       simp only [round_Cut.l1] at H
       by_cases c100 : x132_2 < (wrap64 (-(a1_2 / 4)))
       ·
        rw [if_pos c100] at H
        have c100b0 : decide (x132_2 < (wrap64 (-(a1_2 / 4)))) = true := decide_eq_true c100
        clear c100
        replace H := Option.bind_eq_some_iff.mp H
        obtain ⟨⟨t220, t221, t222⟩, A1010, H⟩ := H
        try dsimp -simprocs only at H
        have A101 := Aside0.mk A1010
        clear A1010
        have H' := Aside0.mk H
        clear H
        have hnb102 := NB207_193.out
        have hnc102 := NB193_207.out
        have hnb103 := NB207_200.out
        have hnc103 := NB200_207.out
        obtain ⟨hcz104_0, hcz104_1, hfz104_0, hfz104_1⟩ := cl2 BK207.out
        go_wp2_with (first | ((with_reducible refine gX_ 71 137 rfl rfl ?_); refine goesY_ (some 137) Try.func71 #[.agg #[.int .u64 x208000_2, .int .u64 x208001_2], .int .u64 0, .int .i64 1, .bool x12_2] ?_; (with_reducible refine (round_under.calls x208000_2 x208001_2 0 1 x12_2 t220 t221 t222 _ A101.out).mono ?_); rintro e w105 ⟨rfl, hb⟩; refine ⟨_, rfl, ?_⟩; replace BK193 := Aside0.mk (bB3 BK193.out hb); replace BK200 := Aside0.mk (bB3 BK200.out hb); replace BK207 := Aside0.mk (bB3 BK207.out hb); replace HB := Aside0.mk (bS3 HB.out hb); (try clear hb); (try clear hk); obtain ⟨hcz106_0, hcz106_1, hfz106_0, hfz106_1⟩ := cl2 BK207.out))
        go_roundg k2
        case measure => have := HJ3.out; have := HK2.out; omega
        case rel => exact ⟨(t222), (wrap64 (x132_2 + 1)), (t220), (t221), (by first | rfl | (simp; done) | (simp [*]; done)), (by first | rfl | (simp; done) | (simp [*]; done)), H', ⟨by have := HJ3.out; have := HK2.out; omega⟩, ⟨bQ3 BK193.out⟩, ⟨bQ3 BK200.out⟩, ⟨bQ3 BK207.out⟩, ⟨bR3 HB.out⟩⟩
       ·
        rw [if_neg c100] at H
        have c100b0 : decide (x132_2 < (wrap64 (-(a1_2 / 4)))) = false := decide_eq_false c100
        clear c100
        have H' := Aside0.mk H
        clear H
        go_wp2
        go_meet
        case rel => exact ⟨_, (x12_2), (x208000_2), (x208001_2), (by first | rfl | (simp; done) | (simp [*]; done)), H', ⟨by have := HJ3.out; have := HK2.out; first | omega | exact Nat.le_refl _⟩, ⟨bK3 BK193.out⟩, ⟨bK3 BK200.out⟩, ⟨bK3 BK207.out⟩, ⟨bR3 HB.out⟩⟩
   case rest =>
    clear HC69
    try clear c1
    try clear c2
    try clear p2
    try clear q2
    try clear c3
    try clear c4
    try clear c5
    try clear c6
    try clear p6
    try clear c7
    try clear c8
    try clear c9
    try clear c10
    try clear c11
    try clear c12
    try clear c12b0
    try clear c12b1
    try clear c13
    try clear c17
    try clear c17b0
    try clear c17b1
    try clear c18
    try clear q20
    try clear c23
    try clear c23b0
    try clear c24
    try clear c29
    try clear c29b0
    try clear c30
    try clear c35
    try clear c35b0
    try clear c35b1
    try clear c36
    try clear c36b0
    try clear c36b1
    try clear c37
    try clear c37b0
    try clear c37b1
    try clear c38
    try clear c39
    try clear c44
    try clear c49
    try clear c53
    try clear c54
    try clear c59
    try clear c64
    try clear p64
    try clear c69
    try clear c70
    try clear c71
    try clear c74
    try clear c75
    try clear c80
    try clear c80b0
    try clear c82
    try clear c83
    try clear c87
    try clear c87b0
    try clear c89
    try clear c90
    try clear c95
    try clear c96
    try clear c100
    try clear c100b0
    try clear c102
    try clear c103
    try clear hcz104_0 hcz104_1
    try clear hcz106_0 hcz106_1
    try clear hcz14_0 hcz14_1 hcz14_2 hcz14_3 hcz14_4 hcz14_5
    try clear hcz16_0 hcz16_1 hcz16_2 hcz16_3 hcz16_4 hcz16_5
    try clear hcz19_0 hcz19_1 hcz19_2 hcz19_3 hcz19_4 hcz19_5
    try clear hcz21_0 hcz21_1 hcz21_2 hcz21_3 hcz21_4 hcz21_5
    try clear hcz22_0 hcz22_1 hcz22_2 hcz22_3 hcz22_4
    try clear hcz25_0 hcz25_1 hcz25_2 hcz25_3 hcz25_4 hcz25_5
    try clear hcz27_0 hcz27_1 hcz27_2 hcz27_3 hcz27_4 hcz27_5
    try clear hcz28_0 hcz28_1 hcz28_2 hcz28_3 hcz28_4
    try clear hcz31_0 hcz31_1 hcz31_2 hcz31_3 hcz31_4 hcz31_5
    try clear hcz33_0 hcz33_1 hcz33_2 hcz33_3 hcz33_4 hcz33_5
    try clear hcz34_0 hcz34_1 hcz34_2 hcz34_3 hcz34_4
    try clear hcz40_0 hcz40_1 hcz40_2 hcz40_3 hcz40_4 hcz40_5
    try clear hcz42_0 hcz42_1 hcz42_2 hcz42_3 hcz42_4 hcz42_5
    try clear hcz43_0 hcz43_1 hcz43_2 hcz43_3 hcz43_4
    try clear hcz45_0 hcz45_1 hcz45_2 hcz45_3 hcz45_4 hcz45_5
    try clear hcz47_0 hcz47_1 hcz47_2 hcz47_3 hcz47_4 hcz47_5
    try clear hcz48_0 hcz48_1 hcz48_2 hcz48_3 hcz48_4
    try clear hcz50_0 hcz50_1 hcz50_2 hcz50_3 hcz50_4 hcz50_5
    try clear hcz52_0 hcz52_1 hcz52_2 hcz52_3 hcz52_4 hcz52_5
    try clear hcz53_0 hcz53_1 hcz53_2 hcz53_3 hcz53_4
    try clear hcz55_0 hcz55_1 hcz55_2 hcz55_3 hcz55_4 hcz55_5
    try clear hcz57_0 hcz57_1 hcz57_2 hcz57_3 hcz57_4 hcz57_5
    try clear hcz58_0 hcz58_1 hcz58_2 hcz58_3 hcz58_4
    try clear hcz60_0 hcz60_1 hcz60_2 hcz60_3 hcz60_4 hcz60_5
    try clear hcz62_0 hcz62_1 hcz62_2 hcz62_3 hcz62_4 hcz62_5
    try clear hcz63_0 hcz63_1 hcz63_2 hcz63_3 hcz63_4
    try clear hcz65_0 hcz65_1 hcz65_2 hcz65_3 hcz65_4 hcz65_5
    try clear hcz71_0 hcz71_1 hcz71_2 hcz71_3 hcz71_4 hcz71_5
    try clear hcz76_0 hcz76_1
    try clear hcz77_0 hcz77_1 hcz77_2 hcz77_3 hcz77_4 hcz77_5
    try clear hcz79_0 hcz79_1
    try clear hcz84_0 hcz84_1
    try clear hcz86_0 hcz86_1
    try clear hcz91_0 hcz91_1
    try clear hcz93_0 hcz93_1
    try clear hcz97_0 hcz97_1
    try clear hcz99_0 hcz99_1
    try clear hcz9_0 hcz9_1 hcz9_2 hcz9_3 hcz9_4
    try clear hfz104_0 hfz104_1
    try clear hfz106_0 hfz106_1
    try clear hfz14_0 hfz14_1 hfz14_2 hfz14_3 hfz14_4 hfz14_5
    try clear hfz16_0 hfz16_1 hfz16_2 hfz16_3 hfz16_4 hfz16_5
    try clear hfz19_0 hfz19_1 hfz19_2 hfz19_3 hfz19_4 hfz19_5
    try clear hfz21_0 hfz21_1 hfz21_2 hfz21_3 hfz21_4 hfz21_5
    try clear hfz22_0 hfz22_1 hfz22_2 hfz22_3 hfz22_4
    try clear hfz25_0 hfz25_1 hfz25_2 hfz25_3 hfz25_4 hfz25_5
    try clear hfz27_0 hfz27_1 hfz27_2 hfz27_3 hfz27_4 hfz27_5
    try clear hfz28_0 hfz28_1 hfz28_2 hfz28_3 hfz28_4
    try clear hfz31_0 hfz31_1 hfz31_2 hfz31_3 hfz31_4 hfz31_5
    try clear hfz33_0 hfz33_1 hfz33_2 hfz33_3 hfz33_4 hfz33_5
    try clear hfz34_0 hfz34_1 hfz34_2 hfz34_3 hfz34_4
    try clear hfz40_0 hfz40_1 hfz40_2 hfz40_3 hfz40_4 hfz40_5
    try clear hfz42_0 hfz42_1 hfz42_2 hfz42_3 hfz42_4 hfz42_5
    try clear hfz43_0 hfz43_1 hfz43_2 hfz43_3 hfz43_4
    try clear hfz45_0 hfz45_1 hfz45_2 hfz45_3 hfz45_4 hfz45_5
    try clear hfz47_0 hfz47_1 hfz47_2 hfz47_3 hfz47_4 hfz47_5
    try clear hfz48_0 hfz48_1 hfz48_2 hfz48_3 hfz48_4
    try clear hfz50_0 hfz50_1 hfz50_2 hfz50_3 hfz50_4 hfz50_5
    try clear hfz52_0 hfz52_1 hfz52_2 hfz52_3 hfz52_4 hfz52_5
    try clear hfz53_0 hfz53_1 hfz53_2 hfz53_3 hfz53_4
    try clear hfz55_0 hfz55_1 hfz55_2 hfz55_3 hfz55_4 hfz55_5
    try clear hfz57_0 hfz57_1 hfz57_2 hfz57_3 hfz57_4 hfz57_5
    try clear hfz58_0 hfz58_1 hfz58_2 hfz58_3 hfz58_4
    try clear hfz60_0 hfz60_1 hfz60_2 hfz60_3 hfz60_4 hfz60_5
    try clear hfz62_0 hfz62_1 hfz62_2 hfz62_3 hfz62_4 hfz62_5
    try clear hfz63_0 hfz63_1 hfz63_2 hfz63_3 hfz63_4
    try clear hfz65_0 hfz65_1 hfz65_2 hfz65_3 hfz65_4 hfz65_5
    try clear hfz71_0 hfz71_1 hfz71_2 hfz71_3 hfz71_4 hfz71_5
    try clear hfz76_0 hfz76_1
    try clear hfz77_0 hfz77_1 hfz77_2 hfz77_3 hfz77_4 hfz77_5
    try clear hfz79_0 hfz79_1
    try clear hfz84_0 hfz84_1
    try clear hfz86_0 hfz86_1
    try clear hfz91_0 hfz91_1
    try clear hfz93_0 hfz93_1
    try clear hfz97_0 hfz97_1
    try clear hfz99_0 hfz99_1
    try clear hfz9_0 hfz9_1 hfz9_2 hfz9_3 hfz9_4
    try clear p2
    try clear p6
    try clear p64
    try clear q2
    try clear q20
    try clear q201
    obtain ⟨kq, x12_68, x208000_68, x208001_68, rfl, HA, HJ68, BK193, BK200, BK207, HB⟩ := hcut
    cases kq with
    | zero => exact absurd HA.out (by simp [round_Cut.j3])
    | succ kj68 =>
     have H := HA.out
     clear HA
     simp only [round_Cut.j3] at H
     obtain ⟨ji107, hji107⟩ : ∃ j_ : Int, (wrap64 (65 - a0)) = j_ := ⟨_, rfl⟩
     replace H : (if 0 ≤ (ji107) then ((twin_Shl.f kj68 x208000_68 x208001_68 (wrap64 (a0 - 1))).bind fun bt223 => (if bt223.2.1 = 0 then ((round_left.f kj68 bt223.1 x12_68).bind fun t228 => (some (shr .u64 x208000_68 (ji107), t228, none))) else ((round_left.f kj68 bt223.1 true).bind fun t229 => (some (shr .u64 x208000_68 (ji107), t229, none))))) else (none)) = some (r1, r2, r3) := by first | (rw [hji107] at H; exact H) | (simp only [hji107] at H ⊢; exact H)
     have hji107w : (IntKind.i64.wrap (65 - a0)) = ji107 := (i64_w _).trans hji107
     by_cases c108 : 0 ≤ (ji107)
     ·
      rw [if_pos c108] at H
      have c108b0 := eq_true c108
      have c108b1 : decide (0 ≤ (ji107)) = true := decide_eq_true c108
      clear c108
      obtain ⟨ji109, hji109⟩ : ∃ j_ : Int, (shr .u64 x208000_68 (ji107)) = j_ := ⟨_, rfl⟩
      replace H : ((twin_Shl.f kj68 x208000_68 x208001_68 (wrap64 (a0 - 1))).bind fun bt223 => (if bt223.2.1 = 0 then ((round_left.f kj68 bt223.1 x12_68).bind fun t228 => (some (ji109, t228, none))) else ((round_left.f kj68 bt223.1 true).bind fun t229 => (some (ji109, t229, none))))) = some (r1, r2, r3) := by first | (rw [hji109] at H; exact H) | (simp only [hji109] at H ⊢; exact H)
      have hji109_ : (x208000_68 / 2 ^ min (ji107).toNat 64) = ji109 := hji109
      have hji109z : (ji107) ≤ 64 → (x208000_68 / 2 ^ (ji107).toNat) = ji109 := shr_small hji109
      replace H := Option.bind_eq_some_iff.mp H
      obtain ⟨⟨t223, t224, t225, t226⟩, A1100, H⟩ := H
      try dsimp -simprocs only at H
      have A110 := Aside0.mk A1100
      clear A1100
      by_cases c111 : t224 = 0
      ·
       rw [if_pos c111] at H
       have c111b0 : (t224 == 0) = true := beq_iff_eq.mpr c111
       have c111b1 : (t224 != 0) = false := bne_eq_false_iff_eq.mpr c111
       clear c111
       replace H := Option.bind_eq_some_iff.mp H
       obtain ⟨t228, A1120, H⟩ := H
       try dsimp -simprocs only at H
       have A112 := Aside0.mk A1120
       clear A1120
       simp only [Option.some.injEq, Prod.mk.injEq] at H
       obtain ⟨rfl, rfl, rfl⟩ := H
       have hnb113 := NB207_193.out
       have hnc113 := NB193_207.out
       have hnb114 := NB207_200.out
       have hnc114 := NB200_207.out
       obtain ⟨hcz115_0, hcz115_1, hfz115_0, hfz115_1⟩ := cl2 BK207.out
       go_wp2_with (first | ((with_reducible refine gX_ 70 150 rfl rfl ?_); refine goesY_ (some 150) Try.func70 #[.agg #[.int .u64 x208000_68, .int .u64 x208001_68], .int .i64 (wrap64 (a0 - 1))] ?_; (with_reducible refine (twin_Shl.calls kj68 x208000_68 x208001_68 (wrap64 (a0 - 1)) t223 t224 t225 t226 _ A110.out).mono ?_); rintro e w116 ⟨rfl, hb⟩; refine ⟨_, rfl, ?_⟩; replace BK193 := Aside0.mk (bB3 BK193.out hb); replace BK200 := Aside0.mk (bB3 BK200.out hb); replace BK207 := Aside0.mk (bB3 BK207.out hb); replace HB := Aside0.mk (bS3 HB.out hb); (try clear hb); (try clear hk); (try simp only [errW_none, errW_some])) | ((with_reducible refine gD (N := 15) rfl ?_); refine bE3 15 #[.int .u64 0, .int .u64 0] 100 ?hr ?_; (case hr => first | (go_simp; done) | (go_simp; rfl)); intro gb227 hg w117 hbox hb; have BK227 := Aside0.mk (hbox); have GW227 := Aside0.mk ((bZ3 hg HB.out)); have GE227 := Aside0.mk ((bZ3 hg HB.out)); replace HB := Aside0.mk (bS3 HB.out hb); have NB193_227 := Aside0.mk ((bL3 hg BK193.out)); have NB227_193 := Aside0.mk ((bG3 hg BK193.out)); replace BK193 := Aside0.mk (bB3 BK193.out hb); have NB200_227 := Aside0.mk ((bL3 hg BK200.out)); have NB227_200 := Aside0.mk ((bG3 hg BK200.out)); replace BK200 := Aside0.mk (bB3 BK200.out hb); have NB207_227 := Aside0.mk ((bL3 hg BK207.out)); have NB227_207 := Aside0.mk ((bG3 hg BK207.out)); replace BK207 := Aside0.mk (bB3 BK207.out hb); clear hb hbox hg; have hnb118 := NB227_193.out; have hnc118 := NB193_227.out; have hnb119 := NB227_200.out; have hnc119 := NB200_227.out; have hnb120 := NB227_207.out; have hnc120 := NB207_227.out; obtain ⟨hcz121_0, hcz121_1, hfz121_0, hfz121_1⟩ := cl2 BK227.out) | ((with_reducible refine gX_ 72 161 rfl rfl ?_); refine goesY_ (some 161) Try.func72 #[.int .u64 t223, .bool x12_68] ?_; (with_reducible refine (round_left.calls kj68 t223 x12_68 t228 _ A112.out).mono ?_); rintro e w' ⟨rfl, ⟨nd, rfl⟩⟩; refine ⟨_, rfl, ?_⟩))
       go_ret3
       exact ⟨by first | rfl | (simp [errW_none, errW_some] <;> rfl) | (simp only [← hji107, ← hji109]; first | rfl | (simp [errW_none, errW_some] <;> rfl)) | (simp [*, errW_none, errW_some] <;> rfl), bR3 HB.out⟩
      ·
       rw [if_neg c111] at H
       have c111b0 : (t224 == 0) = false := beq_eq_false_iff_ne.mpr c111
       have c111b1 : (t224 != 0) = true := bne_iff_ne.mpr c111
       replace H := Option.bind_eq_some_iff.mp H
       obtain ⟨t229, A1220, H⟩ := H
       try dsimp -simprocs only at H
       have A122 := Aside0.mk A1220
       clear A1220
       simp only [Option.some.injEq, Prod.mk.injEq] at H
       obtain ⟨rfl, rfl, rfl⟩ := H
       have hnb123 := NB207_193.out
       have hnc123 := NB193_207.out
       have hnb124 := NB207_200.out
       have hnc124 := NB200_207.out
       obtain ⟨hcz125_0, hcz125_1, hfz125_0, hfz125_1⟩ := cl2 BK207.out
       go_wp2_with (first | ((with_reducible refine gX_ 70 150 rfl rfl ?_); refine goesY_ (some 150) Try.func70 #[.agg #[.int .u64 x208000_68, .int .u64 x208001_68], .int .i64 (wrap64 (a0 - 1))] ?_; (with_reducible refine (twin_Shl.calls kj68 x208000_68 x208001_68 (wrap64 (a0 - 1)) t223 t224 t225 t226 _ A110.out).mono ?_); rintro e w126 ⟨rfl, hb⟩; refine ⟨_, rfl, ?_⟩; replace BK193 := Aside0.mk (bB3 BK193.out hb); replace BK200 := Aside0.mk (bB3 BK200.out hb); replace BK207 := Aside0.mk (bB3 BK207.out hb); replace HB := Aside0.mk (bS3 HB.out hb); (try clear hb); (try clear hk); (try simp only [errW_none, errW_some])) | ((with_reducible refine gD (N := 15) rfl ?_); refine bE3 15 #[.int .u64 0, .int .u64 0] 100 ?hr ?_; (case hr => first | (go_simp; done) | (go_simp; rfl)); intro gb227 hg w127 hbox hb; have BK227 := Aside0.mk (hbox); have GW227 := Aside0.mk ((bZ3 hg HB.out)); have GE227 := Aside0.mk ((bZ3 hg HB.out)); replace HB := Aside0.mk (bS3 HB.out hb); have NB193_227 := Aside0.mk ((bL3 hg BK193.out)); have NB227_193 := Aside0.mk ((bG3 hg BK193.out)); replace BK193 := Aside0.mk (bB3 BK193.out hb); have NB200_227 := Aside0.mk ((bL3 hg BK200.out)); have NB227_200 := Aside0.mk ((bG3 hg BK200.out)); replace BK200 := Aside0.mk (bB3 BK200.out hb); have NB207_227 := Aside0.mk ((bL3 hg BK207.out)); have NB227_207 := Aside0.mk ((bG3 hg BK207.out)); replace BK207 := Aside0.mk (bB3 BK207.out hb); clear hb hbox hg; have hnb128 := NB227_193.out; have hnc128 := NB193_227.out; have hnb129 := NB227_200.out; have hnc129 := NB200_227.out; have hnb130 := NB227_207.out; have hnc130 := NB207_227.out; obtain ⟨hcz131_0, hcz131_1, hfz131_0, hfz131_1⟩ := cl2 BK227.out) | ((with_reducible refine gX_ 72 161 rfl rfl ?_); refine goesY_ (some 161) Try.func72 #[.int .u64 t223, .bool true] ?_; (with_reducible refine (round_left.calls kj68 t223 true t229 _ A122.out).mono ?_); rintro e w' ⟨rfl, ⟨nd, rfl⟩⟩; refine ⟨_, rfl, ?_⟩))
       go_ret3
       exact ⟨by first | rfl | (simp [errW_none, errW_some] <;> rfl) | (simp only [← hji107, ← hji109]; first | rfl | (simp [errW_none, errW_some] <;> rfl)) | (simp [*, errW_none, errW_some] <;> rfl), bR3 HB.out⟩
     ·
      rw [if_neg c108] at H
      exact absurd H (by simp)
def round_Round.f (k : Nat) (a0 : Int) (a1_0 : Int) (a1_1 : Bool) (a1_2 : Int) (a1_3 : Int) (a1_4 : Int) (a1_5 : Bool) : Option (Int × Option Int) := (round_Cut.f k a0 a1_0 a1_1 a1_2 a1_3 a1_4 a1_5).bind fun bt231 => (if bt231.2.2.isNone = true then (if bt231.2.1 = 2 then (if (Go.bits .and .u64 bt231.1 1) = 0 then (if a1_1 = true then ((shape_Fold.f a0 (IntKind.u64.wrap (-bt231.1))).bind fun bt243 => (some (bt243.1, bt243.2))) else ((shape_Fold.f a0 bt231.1).bind fun bt245 => (some (bt245.1, bt245.2)))) else (if a1_1 = true then ((shape_Fold.f a0 (IntKind.u64.wrap (-(IntKind.u64.wrap (bt231.1 + 1))))).bind fun bt247 => (some (bt247.1, bt247.2))) else ((shape_Fold.f a0 (IntKind.u64.wrap (bt231.1 + 1))).bind fun bt249 => (some (bt249.1, bt249.2))))) else (if bt231.2.1 = 3 then (if a1_1 = true then ((shape_Fold.f a0 (IntKind.u64.wrap (-(IntKind.u64.wrap (bt231.1 + 1))))).bind fun bt235 => (some (bt235.1, bt235.2))) else ((shape_Fold.f a0 (IntKind.u64.wrap (bt231.1 + 1))).bind fun bt237 => (some (bt237.1, bt237.2)))) else (if a1_1 = true then ((shape_Fold.f a0 (IntKind.u64.wrap (-bt231.1))).bind fun bt239 => (some (bt239.1, bt239.2))) else ((shape_Fold.f a0 bt231.1).bind fun bt241 => (some (bt241.1, bt241.2)))))) else (some (0, some (bt231.2.2.getD 0))))
set_option maxHeartbeats 8000000 in
set_option maxRecDepth 100000 in
theorem round_Round.calls (k : Nat) (a0 : Int) (a1_0 : Int) (a1_1 : Bool) (a1_2 : Int) (a1_3 : Int) (a1_4 : Int) (a1_5 : Bool) (r1 : Int) (r2 : Option Int) (w : World) (h : round_Round.f k a0 a1_0 a1_1 a1_2 a1_3 a1_4 a1_5 = some (r1, r2)) :
  Calls Try.prog 36 #[.int .i64 a0, .agg #[.int .i64 a1_0, .bool a1_1, .int .i64 a1_2, .int .u64 a1_3, .int .u64 a1_4, .bool a1_5]] w fun e w' => e = .returned (.tuple #[.int .u64 r1, errW r2]) ∧ Below w.heap.size w w' := by
 have hu76 := Try.underlying76
 have hu25 := Try.underlying25
 have hu29 := Try.underlying29
 have HB := Aside0.mk (Below.refl w.heap.size w)
 have H : ((round_Cut.f k a0 a1_0 a1_1 a1_2 a1_3 a1_4 a1_5).bind fun bt231 => (if bt231.2.2.isNone = true then (if bt231.2.1 = 2 then (if (Go.bits .and .u64 bt231.1 1) = 0 then (if a1_1 = true then ((shape_Fold.f a0 (IntKind.u64.wrap (-bt231.1))).bind fun bt243 => (some (bt243.1, bt243.2))) else ((shape_Fold.f a0 bt231.1).bind fun bt245 => (some (bt245.1, bt245.2)))) else (if a1_1 = true then ((shape_Fold.f a0 (IntKind.u64.wrap (-(IntKind.u64.wrap (bt231.1 + 1))))).bind fun bt247 => (some (bt247.1, bt247.2))) else ((shape_Fold.f a0 (IntKind.u64.wrap (bt231.1 + 1))).bind fun bt249 => (some (bt249.1, bt249.2))))) else (if bt231.2.1 = 3 then (if a1_1 = true then ((shape_Fold.f a0 (IntKind.u64.wrap (-(IntKind.u64.wrap (bt231.1 + 1))))).bind fun bt235 => (some (bt235.1, bt235.2))) else ((shape_Fold.f a0 (IntKind.u64.wrap (bt231.1 + 1))).bind fun bt237 => (some (bt237.1, bt237.2)))) else (if a1_1 = true then ((shape_Fold.f a0 (IntKind.u64.wrap (-bt231.1))).bind fun bt239 => (some (bt239.1, bt239.2))) else ((shape_Fold.f a0 bt231.1).bind fun bt241 => (some (bt241.1, bt241.2)))))) else (some (0, some (bt231.2.2.getD 0))))) = some (r1, r2) := h
 clear h
 replace H := Option.bind_eq_some_iff.mp H
 obtain ⟨⟨t231, t232, t233⟩, A30, H⟩ := H
 try dsimp -simprocs only at H
 have A3 := Aside0.mk A30
 clear A30
 rcases t233 with _ | q234
 ·
  rw [if_pos (show (none : Option Int).isNone = true by rfl)] at H
  try simp only [Option.getD_some] at H
  try simp only [errW_none, errW_some]
  by_cases c4 : t232 = 2
  ·
   rw [if_pos c4] at H
   have c4b0 : (t232 == 2) = true := beq_iff_eq.mpr c4
   have c4b1 : (t232 != 2) = false := bne_eq_false_iff_eq.mpr c4
   clear c4
   by_cases c5 : (Go.bits .and .u64 t231 1) = 0
   ·
    rw [if_pos c5] at H
    have c5b0 : ((Go.bits .and .u64 t231 1) == 0) = true := beq_iff_eq.mpr c5
    have c5b1 : ((Go.bits .and .u64 t231 1) != 0) = false := bne_eq_false_iff_eq.mpr c5
    clear c5
    by_cases c6 : a1_1 = true
    ·
     subst c6
     rw [if_pos rfl] at H
     replace H := Option.bind_eq_some_iff.mp H
     obtain ⟨⟨t243, t244⟩, A70, H⟩ := H
     try dsimp -simprocs only at H
     have A7 := Aside0.mk A70
     clear A70
     simp only [Option.some.injEq, Prod.mk.injEq] at H
     obtain ⟨rfl, rfl⟩ := H
     go_enter Try.func36, Try.ntmps36
     go_wp2_with (first | ((with_reducible refine gD (N := 3) rfl ?_); refine bE3 3 #[.int .i64 a1_0, .bool true, .int .i64 a1_2, .int .u64 a1_3, .int .u64 a1_4, .bool a1_5] 76 ?hr ?_; (case hr => first | (go_simp; done) | (go_simp; rfl)); intro gb230 hg w8 hbox hb; have BK230 := Aside0.mk (hbox); have GW230 := Aside0.mk ((bZ3 hg HB.out)); have GE230 := Aside0.mk ((bZ3 hg HB.out)); replace HB := Aside0.mk (bS3 HB.out hb); clear hb hbox hg; obtain ⟨hcz9_0, hcz9_1, hcz9_2, hcz9_3, hcz9_4, hcz9_5, hfz9_0, hfz9_1, hfz9_2, hfz9_3, hfz9_4, hfz9_5⟩ := cl6 BK230.out) | ((with_reducible refine gX_ 53 12 rfl rfl ?_); refine goesY_ (some 12) Try.func53 #[.int .i64 a0, .agg #[.int .i64 a1_0, .bool true, .int .i64 a1_2, .int .u64 a1_3, .int .u64 a1_4, .bool a1_5]] ?_; (with_reducible refine (round_Cut.calls k a0 a1_0 true a1_2 a1_3 a1_4 a1_5 t231 t232 none _ A3.out).mono ?_); rintro e w10 ⟨rfl, hb⟩; refine ⟨_, rfl, ?_⟩; replace BK230 := Aside0.mk (bB3 BK230.out hb); replace HB := Aside0.mk (bS3 HB.out hb); (try clear hb); (try clear hk); (try simp only [errW_none, errW_some]); obtain ⟨hcz11_0, hcz11_1, hcz11_2, hcz11_3, hcz11_4, hcz11_5, hfz11_0, hfz11_1, hfz11_2, hfz11_3, hfz11_4, hfz11_5⟩ := cl6 BK230.out) | ((with_reducible refine gX_ 54 35 rfl rfl ?_); refine goesY_ (some 35) Try.func54 #[.int .i64 a0, .int .u64 (IntKind.u64.wrap (-t231))] ?_; (with_reducible refine (shape_Fold.calls a0 (IntKind.u64.wrap (-t231)) t243 t244 _ A7.out).mono ?_); rintro e w' ⟨rfl, ⟨nd, rfl⟩⟩; refine ⟨_, rfl, ?_⟩; (try simp only [errW_none, errW_some])))
     go_ret2
     exact ⟨eR3, bR3 HB.out⟩
    ·
     replace c6 := Bool.eq_false_iff.mpr c6
     subst c6
     rw [if_neg (show ¬ (false = true) by decide)] at H
     replace H := Option.bind_eq_some_iff.mp H
     obtain ⟨⟨t245, t246⟩, A120, H⟩ := H
     try dsimp -simprocs only at H
     have A12 := Aside0.mk A120
     clear A120
     simp only [Option.some.injEq, Prod.mk.injEq] at H
     obtain ⟨rfl, rfl⟩ := H
     go_enter Try.func36, Try.ntmps36
     go_wp2_with (first | ((with_reducible refine gD (N := 3) rfl ?_); refine bE3 3 #[.int .i64 a1_0, .bool false, .int .i64 a1_2, .int .u64 a1_3, .int .u64 a1_4, .bool a1_5] 76 ?hr ?_; (case hr => first | (go_simp; done) | (go_simp; rfl)); intro gb230 hg w13 hbox hb; have BK230 := Aside0.mk (hbox); have GW230 := Aside0.mk ((bZ3 hg HB.out)); have GE230 := Aside0.mk ((bZ3 hg HB.out)); replace HB := Aside0.mk (bS3 HB.out hb); clear hb hbox hg; obtain ⟨hcz14_0, hcz14_1, hcz14_2, hcz14_3, hcz14_4, hcz14_5, hfz14_0, hfz14_1, hfz14_2, hfz14_3, hfz14_4, hfz14_5⟩ := cl6 BK230.out) | ((with_reducible refine gX_ 53 12 rfl rfl ?_); refine goesY_ (some 12) Try.func53 #[.int .i64 a0, .agg #[.int .i64 a1_0, .bool false, .int .i64 a1_2, .int .u64 a1_3, .int .u64 a1_4, .bool a1_5]] ?_; (with_reducible refine (round_Cut.calls k a0 a1_0 false a1_2 a1_3 a1_4 a1_5 t231 t232 none _ A3.out).mono ?_); rintro e w15 ⟨rfl, hb⟩; refine ⟨_, rfl, ?_⟩; replace BK230 := Aside0.mk (bB3 BK230.out hb); replace HB := Aside0.mk (bS3 HB.out hb); (try clear hb); (try clear hk); (try simp only [errW_none, errW_some]); obtain ⟨hcz16_0, hcz16_1, hcz16_2, hcz16_3, hcz16_4, hcz16_5, hfz16_0, hfz16_1, hfz16_2, hfz16_3, hfz16_4, hfz16_5⟩ := cl6 BK230.out) | ((with_reducible refine gX_ 54 35 rfl rfl ?_); refine goesY_ (some 35) Try.func54 #[.int .i64 a0, .int .u64 t231] ?_; (with_reducible refine (shape_Fold.calls a0 t231 t245 t246 _ A12.out).mono ?_); rintro e w' ⟨rfl, ⟨nd, rfl⟩⟩; refine ⟨_, rfl, ?_⟩; (try simp only [errW_none, errW_some])))
     go_ret2
     exact ⟨eR3, bR3 HB.out⟩
   ·
    rw [if_neg c5] at H
    have c5b0 : ((Go.bits .and .u64 t231 1) == 0) = false := beq_eq_false_iff_ne.mpr c5
    have c5b1 : ((Go.bits .and .u64 t231 1) != 0) = true := bne_iff_ne.mpr c5
    by_cases c17 : a1_1 = true
    ·
     subst c17
     rw [if_pos rfl] at H
     replace H := Option.bind_eq_some_iff.mp H
     obtain ⟨⟨t247, t248⟩, A180, H⟩ := H
     try dsimp -simprocs only at H
     have A18 := Aside0.mk A180
     clear A180
     simp only [Option.some.injEq, Prod.mk.injEq] at H
     obtain ⟨rfl, rfl⟩ := H
     go_enter Try.func36, Try.ntmps36
     go_wp2_with (first | ((with_reducible refine gD (N := 3) rfl ?_); refine bE3 3 #[.int .i64 a1_0, .bool true, .int .i64 a1_2, .int .u64 a1_3, .int .u64 a1_4, .bool a1_5] 76 ?hr ?_; (case hr => first | (go_simp; done) | (go_simp; rfl)); intro gb230 hg w19 hbox hb; have BK230 := Aside0.mk (hbox); have GW230 := Aside0.mk ((bZ3 hg HB.out)); have GE230 := Aside0.mk ((bZ3 hg HB.out)); replace HB := Aside0.mk (bS3 HB.out hb); clear hb hbox hg; obtain ⟨hcz20_0, hcz20_1, hcz20_2, hcz20_3, hcz20_4, hcz20_5, hfz20_0, hfz20_1, hfz20_2, hfz20_3, hfz20_4, hfz20_5⟩ := cl6 BK230.out) | ((with_reducible refine gX_ 53 12 rfl rfl ?_); refine goesY_ (some 12) Try.func53 #[.int .i64 a0, .agg #[.int .i64 a1_0, .bool true, .int .i64 a1_2, .int .u64 a1_3, .int .u64 a1_4, .bool a1_5]] ?_; (with_reducible refine (round_Cut.calls k a0 a1_0 true a1_2 a1_3 a1_4 a1_5 t231 t232 none _ A3.out).mono ?_); rintro e w21 ⟨rfl, hb⟩; refine ⟨_, rfl, ?_⟩; replace BK230 := Aside0.mk (bB3 BK230.out hb); replace HB := Aside0.mk (bS3 HB.out hb); (try clear hb); (try clear hk); (try simp only [errW_none, errW_some]); obtain ⟨hcz22_0, hcz22_1, hcz22_2, hcz22_3, hcz22_4, hcz22_5, hfz22_0, hfz22_1, hfz22_2, hfz22_3, hfz22_4, hfz22_5⟩ := cl6 BK230.out) | ((with_reducible refine gX_ 54 35 rfl rfl ?_); refine goesY_ (some 35) Try.func54 #[.int .i64 a0, .int .u64 (IntKind.u64.wrap (-(IntKind.u64.wrap (t231 + 1))))] ?_; (with_reducible refine (shape_Fold.calls a0 (IntKind.u64.wrap (-(IntKind.u64.wrap (t231 + 1)))) t247 t248 _ A18.out).mono ?_); rintro e w' ⟨rfl, ⟨nd, rfl⟩⟩; refine ⟨_, rfl, ?_⟩; (try simp only [errW_none, errW_some])))
     go_ret2
     exact ⟨eR3, bR3 HB.out⟩
    ·
     replace c17 := Bool.eq_false_iff.mpr c17
     subst c17
     rw [if_neg (show ¬ (false = true) by decide)] at H
     replace H := Option.bind_eq_some_iff.mp H
     obtain ⟨⟨t249, t250⟩, A230, H⟩ := H
     try dsimp -simprocs only at H
     have A23 := Aside0.mk A230
     clear A230
     simp only [Option.some.injEq, Prod.mk.injEq] at H
     obtain ⟨rfl, rfl⟩ := H
     go_enter Try.func36, Try.ntmps36
     go_wp2_with (first | ((with_reducible refine gD (N := 3) rfl ?_); refine bE3 3 #[.int .i64 a1_0, .bool false, .int .i64 a1_2, .int .u64 a1_3, .int .u64 a1_4, .bool a1_5] 76 ?hr ?_; (case hr => first | (go_simp; done) | (go_simp; rfl)); intro gb230 hg w24 hbox hb; have BK230 := Aside0.mk (hbox); have GW230 := Aside0.mk ((bZ3 hg HB.out)); have GE230 := Aside0.mk ((bZ3 hg HB.out)); replace HB := Aside0.mk (bS3 HB.out hb); clear hb hbox hg; obtain ⟨hcz25_0, hcz25_1, hcz25_2, hcz25_3, hcz25_4, hcz25_5, hfz25_0, hfz25_1, hfz25_2, hfz25_3, hfz25_4, hfz25_5⟩ := cl6 BK230.out) | ((with_reducible refine gX_ 53 12 rfl rfl ?_); refine goesY_ (some 12) Try.func53 #[.int .i64 a0, .agg #[.int .i64 a1_0, .bool false, .int .i64 a1_2, .int .u64 a1_3, .int .u64 a1_4, .bool a1_5]] ?_; (with_reducible refine (round_Cut.calls k a0 a1_0 false a1_2 a1_3 a1_4 a1_5 t231 t232 none _ A3.out).mono ?_); rintro e w26 ⟨rfl, hb⟩; refine ⟨_, rfl, ?_⟩; replace BK230 := Aside0.mk (bB3 BK230.out hb); replace HB := Aside0.mk (bS3 HB.out hb); (try clear hb); (try clear hk); (try simp only [errW_none, errW_some]); obtain ⟨hcz27_0, hcz27_1, hcz27_2, hcz27_3, hcz27_4, hcz27_5, hfz27_0, hfz27_1, hfz27_2, hfz27_3, hfz27_4, hfz27_5⟩ := cl6 BK230.out) | ((with_reducible refine gX_ 54 35 rfl rfl ?_); refine goesY_ (some 35) Try.func54 #[.int .i64 a0, .int .u64 (IntKind.u64.wrap (t231 + 1))] ?_; (with_reducible refine (shape_Fold.calls a0 (IntKind.u64.wrap (t231 + 1)) t249 t250 _ A23.out).mono ?_); rintro e w' ⟨rfl, ⟨nd, rfl⟩⟩; refine ⟨_, rfl, ?_⟩; (try simp only [errW_none, errW_some])))
     go_ret2
     exact ⟨eR3, bR3 HB.out⟩
  ·
   rw [if_neg c4] at H
   have c4b0 : (t232 == 2) = false := beq_eq_false_iff_ne.mpr c4
   have c4b1 : (t232 != 2) = true := bne_iff_ne.mpr c4
   by_cases c28 : t232 = 3
   ·
    rw [if_pos c28] at H
    have c28b0 : (t232 == 3) = true := beq_iff_eq.mpr c28
    have c28b1 : (t232 != 3) = false := bne_eq_false_iff_eq.mpr c28
    clear c28
    by_cases c29 : a1_1 = true
    ·
     subst c29
     rw [if_pos rfl] at H
     replace H := Option.bind_eq_some_iff.mp H
     obtain ⟨⟨t235, t236⟩, A300, H⟩ := H
     try dsimp -simprocs only at H
     have A30 := Aside0.mk A300
     clear A300
     simp only [Option.some.injEq, Prod.mk.injEq] at H
     obtain ⟨rfl, rfl⟩ := H
     go_enter Try.func36, Try.ntmps36
     go_wp2_with (first | ((with_reducible refine gD (N := 3) rfl ?_); refine bE3 3 #[.int .i64 a1_0, .bool true, .int .i64 a1_2, .int .u64 a1_3, .int .u64 a1_4, .bool a1_5] 76 ?hr ?_; (case hr => first | (go_simp; done) | (go_simp; rfl)); intro gb230 hg w31 hbox hb; have BK230 := Aside0.mk (hbox); have GW230 := Aside0.mk ((bZ3 hg HB.out)); have GE230 := Aside0.mk ((bZ3 hg HB.out)); replace HB := Aside0.mk (bS3 HB.out hb); clear hb hbox hg; obtain ⟨hcz32_0, hcz32_1, hcz32_2, hcz32_3, hcz32_4, hcz32_5, hfz32_0, hfz32_1, hfz32_2, hfz32_3, hfz32_4, hfz32_5⟩ := cl6 BK230.out) | ((with_reducible refine gX_ 53 12 rfl rfl ?_); refine goesY_ (some 12) Try.func53 #[.int .i64 a0, .agg #[.int .i64 a1_0, .bool true, .int .i64 a1_2, .int .u64 a1_3, .int .u64 a1_4, .bool a1_5]] ?_; (with_reducible refine (round_Cut.calls k a0 a1_0 true a1_2 a1_3 a1_4 a1_5 t231 t232 none _ A3.out).mono ?_); rintro e w33 ⟨rfl, hb⟩; refine ⟨_, rfl, ?_⟩; replace BK230 := Aside0.mk (bB3 BK230.out hb); replace HB := Aside0.mk (bS3 HB.out hb); (try clear hb); (try clear hk); (try simp only [errW_none, errW_some]); obtain ⟨hcz34_0, hcz34_1, hcz34_2, hcz34_3, hcz34_4, hcz34_5, hfz34_0, hfz34_1, hfz34_2, hfz34_3, hfz34_4, hfz34_5⟩ := cl6 BK230.out) | ((with_reducible refine gX_ 54 35 rfl rfl ?_); refine goesY_ (some 35) Try.func54 #[.int .i64 a0, .int .u64 (IntKind.u64.wrap (-(IntKind.u64.wrap (t231 + 1))))] ?_; (with_reducible refine (shape_Fold.calls a0 (IntKind.u64.wrap (-(IntKind.u64.wrap (t231 + 1)))) t235 t236 _ A30.out).mono ?_); rintro e w' ⟨rfl, ⟨nd, rfl⟩⟩; refine ⟨_, rfl, ?_⟩; (try simp only [errW_none, errW_some])))
     go_ret2
     exact ⟨eR3, bR3 HB.out⟩
    ·
     replace c29 := Bool.eq_false_iff.mpr c29
     subst c29
     rw [if_neg (show ¬ (false = true) by decide)] at H
     replace H := Option.bind_eq_some_iff.mp H
     obtain ⟨⟨t237, t238⟩, A350, H⟩ := H
     try dsimp -simprocs only at H
     have A35 := Aside0.mk A350
     clear A350
     simp only [Option.some.injEq, Prod.mk.injEq] at H
     obtain ⟨rfl, rfl⟩ := H
     go_enter Try.func36, Try.ntmps36
     go_wp2_with (first | ((with_reducible refine gD (N := 3) rfl ?_); refine bE3 3 #[.int .i64 a1_0, .bool false, .int .i64 a1_2, .int .u64 a1_3, .int .u64 a1_4, .bool a1_5] 76 ?hr ?_; (case hr => first | (go_simp; done) | (go_simp; rfl)); intro gb230 hg w36 hbox hb; have BK230 := Aside0.mk (hbox); have GW230 := Aside0.mk ((bZ3 hg HB.out)); have GE230 := Aside0.mk ((bZ3 hg HB.out)); replace HB := Aside0.mk (bS3 HB.out hb); clear hb hbox hg; obtain ⟨hcz37_0, hcz37_1, hcz37_2, hcz37_3, hcz37_4, hcz37_5, hfz37_0, hfz37_1, hfz37_2, hfz37_3, hfz37_4, hfz37_5⟩ := cl6 BK230.out) | ((with_reducible refine gX_ 53 12 rfl rfl ?_); refine goesY_ (some 12) Try.func53 #[.int .i64 a0, .agg #[.int .i64 a1_0, .bool false, .int .i64 a1_2, .int .u64 a1_3, .int .u64 a1_4, .bool a1_5]] ?_; (with_reducible refine (round_Cut.calls k a0 a1_0 false a1_2 a1_3 a1_4 a1_5 t231 t232 none _ A3.out).mono ?_); rintro e w38 ⟨rfl, hb⟩; refine ⟨_, rfl, ?_⟩; replace BK230 := Aside0.mk (bB3 BK230.out hb); replace HB := Aside0.mk (bS3 HB.out hb); (try clear hb); (try clear hk); (try simp only [errW_none, errW_some]); obtain ⟨hcz39_0, hcz39_1, hcz39_2, hcz39_3, hcz39_4, hcz39_5, hfz39_0, hfz39_1, hfz39_2, hfz39_3, hfz39_4, hfz39_5⟩ := cl6 BK230.out) | ((with_reducible refine gX_ 54 35 rfl rfl ?_); refine goesY_ (some 35) Try.func54 #[.int .i64 a0, .int .u64 (IntKind.u64.wrap (t231 + 1))] ?_; (with_reducible refine (shape_Fold.calls a0 (IntKind.u64.wrap (t231 + 1)) t237 t238 _ A35.out).mono ?_); rintro e w' ⟨rfl, ⟨nd, rfl⟩⟩; refine ⟨_, rfl, ?_⟩; (try simp only [errW_none, errW_some])))
     go_ret2
     exact ⟨eR3, bR3 HB.out⟩
   ·
    rw [if_neg c28] at H
    have c28b0 : (t232 == 3) = false := beq_eq_false_iff_ne.mpr c28
    have c28b1 : (t232 != 3) = true := bne_iff_ne.mpr c28
    by_cases c40 : a1_1 = true
    ·
     subst c40
     rw [if_pos rfl] at H
     replace H := Option.bind_eq_some_iff.mp H
     obtain ⟨⟨t239, t240⟩, A410, H⟩ := H
     try dsimp -simprocs only at H
     have A41 := Aside0.mk A410
     clear A410
     simp only [Option.some.injEq, Prod.mk.injEq] at H
     obtain ⟨rfl, rfl⟩ := H
     go_enter Try.func36, Try.ntmps36
     go_wp2_with (first | ((with_reducible refine gD (N := 3) rfl ?_); refine bE3 3 #[.int .i64 a1_0, .bool true, .int .i64 a1_2, .int .u64 a1_3, .int .u64 a1_4, .bool a1_5] 76 ?hr ?_; (case hr => first | (go_simp; done) | (go_simp; rfl)); intro gb230 hg w42 hbox hb; have BK230 := Aside0.mk (hbox); have GW230 := Aside0.mk ((bZ3 hg HB.out)); have GE230 := Aside0.mk ((bZ3 hg HB.out)); replace HB := Aside0.mk (bS3 HB.out hb); clear hb hbox hg; obtain ⟨hcz43_0, hcz43_1, hcz43_2, hcz43_3, hcz43_4, hcz43_5, hfz43_0, hfz43_1, hfz43_2, hfz43_3, hfz43_4, hfz43_5⟩ := cl6 BK230.out) | ((with_reducible refine gX_ 53 12 rfl rfl ?_); refine goesY_ (some 12) Try.func53 #[.int .i64 a0, .agg #[.int .i64 a1_0, .bool true, .int .i64 a1_2, .int .u64 a1_3, .int .u64 a1_4, .bool a1_5]] ?_; (with_reducible refine (round_Cut.calls k a0 a1_0 true a1_2 a1_3 a1_4 a1_5 t231 t232 none _ A3.out).mono ?_); rintro e w44 ⟨rfl, hb⟩; refine ⟨_, rfl, ?_⟩; replace BK230 := Aside0.mk (bB3 BK230.out hb); replace HB := Aside0.mk (bS3 HB.out hb); (try clear hb); (try clear hk); (try simp only [errW_none, errW_some]); obtain ⟨hcz45_0, hcz45_1, hcz45_2, hcz45_3, hcz45_4, hcz45_5, hfz45_0, hfz45_1, hfz45_2, hfz45_3, hfz45_4, hfz45_5⟩ := cl6 BK230.out) | ((with_reducible refine gX_ 54 35 rfl rfl ?_); refine goesY_ (some 35) Try.func54 #[.int .i64 a0, .int .u64 (IntKind.u64.wrap (-t231))] ?_; (with_reducible refine (shape_Fold.calls a0 (IntKind.u64.wrap (-t231)) t239 t240 _ A41.out).mono ?_); rintro e w' ⟨rfl, ⟨nd, rfl⟩⟩; refine ⟨_, rfl, ?_⟩; (try simp only [errW_none, errW_some])))
     go_ret2
     exact ⟨eR3, bR3 HB.out⟩
    ·
     replace c40 := Bool.eq_false_iff.mpr c40
     subst c40
     rw [if_neg (show ¬ (false = true) by decide)] at H
     replace H := Option.bind_eq_some_iff.mp H
     obtain ⟨⟨t241, t242⟩, A460, H⟩ := H
     try dsimp -simprocs only at H
     have A46 := Aside0.mk A460
     clear A460
     simp only [Option.some.injEq, Prod.mk.injEq] at H
     obtain ⟨rfl, rfl⟩ := H
     go_enter Try.func36, Try.ntmps36
     go_wp2_with (first | ((with_reducible refine gD (N := 3) rfl ?_); refine bE3 3 #[.int .i64 a1_0, .bool false, .int .i64 a1_2, .int .u64 a1_3, .int .u64 a1_4, .bool a1_5] 76 ?hr ?_; (case hr => first | (go_simp; done) | (go_simp; rfl)); intro gb230 hg w47 hbox hb; have BK230 := Aside0.mk (hbox); have GW230 := Aside0.mk ((bZ3 hg HB.out)); have GE230 := Aside0.mk ((bZ3 hg HB.out)); replace HB := Aside0.mk (bS3 HB.out hb); clear hb hbox hg; obtain ⟨hcz48_0, hcz48_1, hcz48_2, hcz48_3, hcz48_4, hcz48_5, hfz48_0, hfz48_1, hfz48_2, hfz48_3, hfz48_4, hfz48_5⟩ := cl6 BK230.out) | ((with_reducible refine gX_ 53 12 rfl rfl ?_); refine goesY_ (some 12) Try.func53 #[.int .i64 a0, .agg #[.int .i64 a1_0, .bool false, .int .i64 a1_2, .int .u64 a1_3, .int .u64 a1_4, .bool a1_5]] ?_; (with_reducible refine (round_Cut.calls k a0 a1_0 false a1_2 a1_3 a1_4 a1_5 t231 t232 none _ A3.out).mono ?_); rintro e w49 ⟨rfl, hb⟩; refine ⟨_, rfl, ?_⟩; replace BK230 := Aside0.mk (bB3 BK230.out hb); replace HB := Aside0.mk (bS3 HB.out hb); (try clear hb); (try clear hk); (try simp only [errW_none, errW_some]); obtain ⟨hcz50_0, hcz50_1, hcz50_2, hcz50_3, hcz50_4, hcz50_5, hfz50_0, hfz50_1, hfz50_2, hfz50_3, hfz50_4, hfz50_5⟩ := cl6 BK230.out) | ((with_reducible refine gX_ 54 35 rfl rfl ?_); refine goesY_ (some 35) Try.func54 #[.int .i64 a0, .int .u64 t231] ?_; (with_reducible refine (shape_Fold.calls a0 t231 t241 t242 _ A46.out).mono ?_); rintro e w' ⟨rfl, ⟨nd, rfl⟩⟩; refine ⟨_, rfl, ?_⟩; (try simp only [errW_none, errW_some])))
     go_ret2
     exact ⟨eR3, bR3 HB.out⟩
 ·
  rw [if_neg (show ¬ (some q234).isNone = true by simp)] at H
  try simp only [Option.getD_some] at H
  try simp only [errW_none, errW_some]
  simp only [Option.some.injEq, Prod.mk.injEq] at H
  obtain ⟨rfl, rfl⟩ := H
  go_enter Try.func36, Try.ntmps36
  go_wp2_with (first | ((with_reducible refine gD (N := 3) rfl ?_); refine bE3 3 #[.int .i64 a1_0, .bool a1_1, .int .i64 a1_2, .int .u64 a1_3, .int .u64 a1_4, .bool a1_5] 76 ?hr ?_; (case hr => first | (go_simp; done) | (go_simp; rfl)); intro gb230 hg w51 hbox hb; have BK230 := Aside0.mk (hbox); have GW230 := Aside0.mk ((bZ3 hg HB.out)); have GE230 := Aside0.mk ((bZ3 hg HB.out)); replace HB := Aside0.mk (bS3 HB.out hb); clear hb hbox hg; obtain ⟨hcz52_0, hcz52_1, hcz52_2, hcz52_3, hcz52_4, hcz52_5, hfz52_0, hfz52_1, hfz52_2, hfz52_3, hfz52_4, hfz52_5⟩ := cl6 BK230.out) | ((with_reducible refine gX_ 53 12 rfl rfl ?_); refine goesY_ (some 12) Try.func53 #[.int .i64 a0, .agg #[.int .i64 a1_0, .bool a1_1, .int .i64 a1_2, .int .u64 a1_3, .int .u64 a1_4, .bool a1_5]] ?_; (with_reducible refine (round_Cut.calls k a0 a1_0 a1_1 a1_2 a1_3 a1_4 a1_5 t231 t232 (some q234) _ A3.out).mono ?_); rintro e w53 ⟨rfl, hb⟩; refine ⟨_, rfl, ?_⟩; replace BK230 := Aside0.mk (bB3 BK230.out hb); replace HB := Aside0.mk (bS3 HB.out hb); (try clear hb); (try clear hk); (try simp only [errW_none, errW_some])))
  go_ret2
  exact ⟨eR3, bR3 HB.out⟩
end Go.Proofs.Ytjlaijaadclghaa.F
