/- Functions of the given program as plain Lean functions, and for each a proof that the program's call comes to just these answers; no further conditions. (Written by a program of this repo out of the translation.) -/
import Derived.Test.YtpdpggndhmnggaaF0g
import Derived.Test.YtpdpggndhmnggaaF8g
import Derived.Test.YtpdpggndhmnggaaF9g
import Derived.Test.YtpdpggndhmnggaaF10g
import Derived.Test.YtpdpggndhmnggaaF13g
namespace Go.Proofs.Ytpdpggndhmnggaa.F
open Go.RowKit Go.Proofs.YtpdpggndhmnggaaW.PrintWords Go.Proofs.YtpdpggndhmnggaaW.PrintLast Go.Proofs.YtpdpggndhmnggaaW.PrintMore
attribute [local go_sem high] xor_u64 xor_u32 eqErr25 neErr25 eqErrL25 neErrL25
attribute [local go_sem] max2_int min2_int max_two min_two max_three min_three max_four min_four   -- for this text's walks alone
set_option linter.unusedVariables false
set_option linter.unusedSimpArgs false
def gen_Convert.f (k : Nat) (a0 : Int) (a1 : Int) (a2 : Int) : Option (Int × Option Int) := (shape_Of.f a1).bind fun bt642 => (if bt642.2.2.2.2.2.isNone = true then ((codec_Decode.f k a0 a2).bind fun bt650 => (if bt650.2.2.2.2.isNone = true then ((round_Of.f k bt650.1 bt650.2.1 bt650.2.2.1 bt650.2.2.2.1).bind fun bt657 => ((round_Round.f k a1 bt657.1 bt657.2.1 bt657.2.2.1 bt657.2.2.2.1 bt657.2.2.2.2.1 bt657.2.2.2.2.2.1).bind fun bt665 => (some (bt665.1, bt665.2)))) else (some (0, some (bt650.2.2.2.2.getD 0))))) else (some (0, some (bt642.2.2.2.2.2.getD 0))))
set_option maxHeartbeats 8000000 in
set_option maxRecDepth 100000 in
theorem gen_Convert.calls (k : Nat) (a0 : Int) (a1 : Int) (a2 : Int) (r1 : Int) (r2 : Option Int) (w : World) (h : gen_Convert.f k a0 a1 a2 = some (r1, r2)) :
  Calls Try.prog 29 #[.int .i64 a0, .int .i64 a1, .int .u64 a2] w fun e w' => e = .returned (.tuple #[.int .u64 r1, errW r2]) ∧ Below w.heap.size w w' := by
 have hu93 := Try.underlying93
 have hu42 := Try.underlying42
 have hu61 := Try.underlying61
 have hu25 := Try.underlying25
 have hu40 := Try.underlying40
 have HB := Aside0.mk (Below.refl w.heap.size w)
 have H : ((shape_Of.f a1).bind fun bt642 => (if bt642.2.2.2.2.2.isNone = true then ((codec_Decode.f k a0 a2).bind fun bt650 => (if bt650.2.2.2.2.isNone = true then ((round_Of.f k bt650.1 bt650.2.1 bt650.2.2.1 bt650.2.2.2.1).bind fun bt657 => ((round_Round.f k a1 bt657.1 bt657.2.1 bt657.2.2.1 bt657.2.2.2.1 bt657.2.2.2.2.1 bt657.2.2.2.2.2.1).bind fun bt665 => (some (bt665.1, bt665.2)))) else (some (0, some (bt650.2.2.2.2.getD 0))))) else (some (0, some (bt642.2.2.2.2.2.getD 0))))) = some (r1, r2) := h
 clear h
 replace H := Option.bind_eq_some_iff.mp H
 obtain ⟨⟨t642, t643, t644, t645, t646, t647⟩, A40, H⟩ := H
 try dsimp -simprocs only at H
 have A4 := Aside0.mk A40
 clear A40
 rcases t647 with _ | q649
 ·
  rw [if_pos (show (none : Option Int).isNone = true by rfl)] at H
  try simp only [Option.getD_some] at H
  try simp only [errW_none, errW_some]
  replace H := Option.bind_eq_some_iff.mp H
  obtain ⟨⟨t650, t651, t652, t653, t654⟩, A50, H⟩ := H
  try dsimp -simprocs only at H
  have A5 := Aside0.mk A50
  clear A50
  rcases t654 with _ | q656
  ·
   rw [if_pos (show (none : Option Int).isNone = true by rfl)] at H
   try simp only [Option.getD_some] at H
   try simp only [errW_none, errW_some]
   replace H := Option.bind_eq_some_iff.mp H
   obtain ⟨⟨t657, t658, t659, t660, t661, t662, t663⟩, A60, H⟩ := H
   try dsimp -simprocs only at H
   have A6 := Aside0.mk A60
   clear A60
   replace H := Option.bind_eq_some_iff.mp H
   obtain ⟨⟨t665, t666⟩, A70, H⟩ := H
   try dsimp -simprocs only at H
   have A7 := Aside0.mk A70
   clear A70
   simp only [Option.some.injEq, Prod.mk.injEq] at H
   obtain ⟨rfl, rfl⟩ := H
   go_enter Try.func29, Try.ntmps29
   go_wp2_with (first | ((with_reducible refine gX_ 58 16 rfl rfl ?_); refine goesY_ (some 16) Try.func58 #[.int .i64 a1] ?_; (with_reducible refine (shape_Of.calls a1 t642 t643 t644 t645 t646 none _ A4.out).mono ?_); rintro e w8 ⟨rfl, hb⟩; refine ⟨_, rfl, ?_⟩; replace HB := Aside0.mk (bS3 HB.out hb); (try clear hb); (try clear hk); (try simp only [errW_none, errW_some])) | ((with_reducible refine gD (N := 8) rfl ?_); refine bE3 8 #[.int .i64 0, .int .u64 0, .int .u64 0, .int .u64 0, .int .i64 0] 93 ?hr ?_; (case hr => first | (go_simp; done) | (go_simp; rfl)); intro gb648 hg w9 hbox hb; have BK648 := Aside0.mk (hbox); have GW648 := Aside0.mk ((bZ3 hg HB.out)); have GE648 := Aside0.mk ((bZ3 hg HB.out)); replace HB := Aside0.mk (bS3 HB.out hb); clear hb hbox hg; obtain ⟨hcz10_0, hcz10_1, hcz10_2, hcz10_3, hcz10_4, hfz10_0, hfz10_1, hfz10_2, hfz10_3, hfz10_4⟩ := cl5 BK648.out) | ((with_reducible refine gX_ 44 25 rfl rfl ?_); refine goesY_ (some 25) Try.func44 #[.int .i64 a0, .int .u64 a2] ?_; (with_reducible refine (codec_Decode.calls k a0 a2 t650 t651 t652 t653 none _ A5.out).mono ?_); rintro e w11 ⟨rfl, hb⟩; refine ⟨_, rfl, ?_⟩; replace BK648 := Aside0.mk (bB (g := gb648) (o := .cells #[.int .i64 t642, .int .u64 t643, .int .u64 t644, .int .u64 t645, .int .i64 t646] 93 (0, 0)) (bQ3 BK648.out) hb); replace HB := Aside0.mk (bS3 HB.out hb); (try clear hb); (try clear hk); (try simp only [errW_none, errW_some])) | ((with_reducible refine gD (N := 10) rfl ?_); refine bE3 10 #[.int .i64 0, .bool false, .int .i64 0, .int .u64 0] 42 ?hr ?_; (case hr => first | (go_simp; done) | (go_simp; rfl)); intro gb655 hg w12 hbox hb; have BK655 := Aside0.mk (hbox); have GW655 := Aside0.mk ((bZ3 hg HB.out)); have GE655 := Aside0.mk ((bZ3 hg HB.out)); replace HB := Aside0.mk (bS3 HB.out hb); have NB648_655 := Aside0.mk ((bL3 hg BK648.out)); have NB655_648 := Aside0.mk ((bG3 hg BK648.out)); replace BK648 := Aside0.mk (bB3 BK648.out hb); clear hb hbox hg; have hnb13 := NB655_648.out; have hnc13 := NB648_655.out; obtain ⟨hcz14_0, hcz14_1, hcz14_2, hcz14_3, hfz14_0, hfz14_1, hfz14_2, hfz14_3⟩ := cl4 BK655.out) | ((with_reducible refine gX_ 59 33 rfl rfl ?_); refine goesY_ (some 33) Try.func59 #[.agg #[.int .i64 t650, .bool t651, .int .i64 t652, .int .u64 t653]] ?_; (with_reducible refine (round_Of.calls k t650 t651 t652 t653 t657 t658 t659 t660 t661 t662 t663 _ A6.out).mono ?_); rintro e w15 ⟨rfl, hb⟩; refine ⟨_, rfl, ?_⟩; replace BK648 := Aside0.mk (bB (g := gb648) (o := .cells #[.int .i64 t642, .int .u64 t643, .int .u64 t644, .int .u64 t645, .int .i64 t646] 93 (0, 0)) (bQ3 BK648.out) hb); replace BK655 := Aside0.mk (bB (g := gb655) (o := .cells #[.int .i64 t650, .bool t651, .int .i64 t652, .int .u64 t653] 42 (0, 0)) (bQ3 BK655.out) hb); replace HB := Aside0.mk (bS3 HB.out hb); (try clear hb); (try clear hk); (try simp only [errW_none, errW_some])) | ((with_reducible refine gD (N := 12) rfl ?_); refine bE3 12 #[.int .i64 0, .bool false, .int .i64 0, .int .u64 0, .int .u64 0, .bool false] 61 ?hr ?_; (case hr => first | (go_simp; done) | (go_simp; rfl)); intro gb664 hg w16 hbox hb; have BK664 := Aside0.mk (hbox); have GW664 := Aside0.mk ((bZ3 hg HB.out)); have GE664 := Aside0.mk ((bZ3 hg HB.out)); replace HB := Aside0.mk (bS3 HB.out hb); have NB648_664 := Aside0.mk ((bL3 hg BK648.out)); have NB664_648 := Aside0.mk ((bG3 hg BK648.out)); replace BK648 := Aside0.mk (bB3 BK648.out hb); have NB655_664 := Aside0.mk ((bL3 hg BK655.out)); have NB664_655 := Aside0.mk ((bG3 hg BK655.out)); replace BK655 := Aside0.mk (bB3 BK655.out hb); clear hb hbox hg; have hnb17 := NB664_648.out; have hnc17 := NB648_664.out; have hnb18 := NB664_655.out; have hnc18 := NB655_664.out; obtain ⟨hcz19_0, hcz19_1, hcz19_2, hcz19_3, hcz19_4, hcz19_5, hfz19_0, hfz19_1, hfz19_2, hfz19_3, hfz19_4, hfz19_5⟩ := cl6 BK664.out) | ((with_reducible refine gX_ 36 38 rfl rfl ?_); refine goesY_ (some 38) Try.func36 #[.int .i64 a1, .agg #[.int .i64 t657, .bool t658, .int .i64 t659, .int .u64 t660, .int .u64 t661, .bool t662]] ?_; (with_reducible refine (round_Round.calls k a1 t657 t658 t659 t660 t661 t662 t665 t666 _ A7.out).mono ?_); rintro e w20 ⟨rfl, hb⟩; refine ⟨_, rfl, ?_⟩; replace BK648 := Aside0.mk (bB (g := gb648) (o := .cells #[.int .i64 t642, .int .u64 t643, .int .u64 t644, .int .u64 t645, .int .i64 t646] 93 (0, 0)) (bQ3 BK648.out) hb); replace BK655 := Aside0.mk (bB (g := gb655) (o := .cells #[.int .i64 t650, .bool t651, .int .i64 t652, .int .u64 t653] 42 (0, 0)) (bQ3 BK655.out) hb); replace BK664 := Aside0.mk (bB (g := gb664) (o := .cells #[.int .i64 t657, .bool t658, .int .i64 t659, .int .u64 t660, .int .u64 t661, .bool t662] 61 (0, 0)) (bQ3 BK664.out) hb); replace HB := Aside0.mk (bS3 HB.out hb); (try clear hb); (try clear hk); (try simp only [errW_none, errW_some])))
   go_ret2
   exact ⟨eR3, bR3 HB.out⟩
  ·
   rw [if_neg (show ¬ (some q656).isNone = true by simp)] at H
   try simp only [Option.getD_some] at H
   try simp only [errW_none, errW_some]
   simp only [Option.some.injEq, Prod.mk.injEq] at H
   obtain ⟨rfl, rfl⟩ := H
   go_enter Try.func29, Try.ntmps29
   go_wp2_with (first | ((with_reducible refine gX_ 58 16 rfl rfl ?_); refine goesY_ (some 16) Try.func58 #[.int .i64 a1] ?_; (with_reducible refine (shape_Of.calls a1 t642 t643 t644 t645 t646 none _ A4.out).mono ?_); rintro e w21 ⟨rfl, hb⟩; refine ⟨_, rfl, ?_⟩; replace HB := Aside0.mk (bS3 HB.out hb); (try clear hb); (try clear hk); (try simp only [errW_none, errW_some])) | ((with_reducible refine gD (N := 8) rfl ?_); refine bE3 8 #[.int .i64 0, .int .u64 0, .int .u64 0, .int .u64 0, .int .i64 0] 93 ?hr ?_; (case hr => first | (go_simp; done) | (go_simp; rfl)); intro gb648 hg w22 hbox hb; have BK648 := Aside0.mk (hbox); have GW648 := Aside0.mk ((bZ3 hg HB.out)); have GE648 := Aside0.mk ((bZ3 hg HB.out)); replace HB := Aside0.mk (bS3 HB.out hb); clear hb hbox hg; obtain ⟨hcz23_0, hcz23_1, hcz23_2, hcz23_3, hcz23_4, hfz23_0, hfz23_1, hfz23_2, hfz23_3, hfz23_4⟩ := cl5 BK648.out) | ((with_reducible refine gX_ 44 25 rfl rfl ?_); refine goesY_ (some 25) Try.func44 #[.int .i64 a0, .int .u64 a2] ?_; (with_reducible refine (codec_Decode.calls k a0 a2 t650 t651 t652 t653 (some q656) _ A5.out).mono ?_); rintro e w24 ⟨rfl, hb⟩; refine ⟨_, rfl, ?_⟩; replace BK648 := Aside0.mk (bB (g := gb648) (o := .cells #[.int .i64 t642, .int .u64 t643, .int .u64 t644, .int .u64 t645, .int .i64 t646] 93 (0, 0)) (bQ3 BK648.out) hb); replace HB := Aside0.mk (bS3 HB.out hb); (try clear hb); (try clear hk); (try simp only [errW_none, errW_some])) | ((with_reducible refine gD (N := 10) rfl ?_); refine bE3 10 #[.int .i64 0, .bool false, .int .i64 0, .int .u64 0] 42 ?hr ?_; (case hr => first | (go_simp; done) | (go_simp; rfl)); intro gb655 hg w25 hbox hb; have BK655 := Aside0.mk (hbox); have GW655 := Aside0.mk ((bZ3 hg HB.out)); have GE655 := Aside0.mk ((bZ3 hg HB.out)); replace HB := Aside0.mk (bS3 HB.out hb); have NB648_655 := Aside0.mk ((bL3 hg BK648.out)); have NB655_648 := Aside0.mk ((bG3 hg BK648.out)); replace BK648 := Aside0.mk (bB3 BK648.out hb); clear hb hbox hg; have hnb26 := NB655_648.out; have hnc26 := NB648_655.out; obtain ⟨hcz27_0, hcz27_1, hcz27_2, hcz27_3, hfz27_0, hfz27_1, hfz27_2, hfz27_3⟩ := cl4 BK655.out))
   go_ret2
   exact ⟨eR3, bR3 HB.out⟩
 ·
  rw [if_neg (show ¬ (some q649).isNone = true by simp)] at H
  try simp only [Option.getD_some] at H
  try simp only [errW_none, errW_some]
  simp only [Option.some.injEq, Prod.mk.injEq] at H
  obtain ⟨rfl, rfl⟩ := H
  go_enter Try.func29, Try.ntmps29
  go_wp2_with (first | ((with_reducible refine gX_ 58 16 rfl rfl ?_); refine goesY_ (some 16) Try.func58 #[.int .i64 a1] ?_; (with_reducible refine (shape_Of.calls a1 t642 t643 t644 t645 t646 (some q649) _ A4.out).mono ?_); rintro e w28 ⟨rfl, hb⟩; refine ⟨_, rfl, ?_⟩; replace HB := Aside0.mk (bS3 HB.out hb); (try clear hb); (try clear hk); (try simp only [errW_none, errW_some])) | ((with_reducible refine gD (N := 8) rfl ?_); refine bE3 8 #[.int .i64 0, .int .u64 0, .int .u64 0, .int .u64 0, .int .i64 0] 93 ?hr ?_; (case hr => first | (go_simp; done) | (go_simp; rfl)); intro gb648 hg w29 hbox hb; have BK648 := Aside0.mk (hbox); have GW648 := Aside0.mk ((bZ3 hg HB.out)); have GE648 := Aside0.mk ((bZ3 hg HB.out)); replace HB := Aside0.mk (bS3 HB.out hb); clear hb hbox hg; obtain ⟨hcz30_0, hcz30_1, hcz30_2, hcz30_3, hcz30_4, hfz30_0, hfz30_1, hfz30_2, hfz30_3, hfz30_4⟩ := cl5 BK648.out))
  go_ret2
  exact ⟨eR3, bR3 HB.out⟩
end Go.Proofs.Ytpdpggndhmnggaa.F
