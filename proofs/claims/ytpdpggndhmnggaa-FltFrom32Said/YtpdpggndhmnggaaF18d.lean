/- Functions of the given program as plain Lean functions, and for each a proof that the program's call comes to just these answers; no further conditions. (Written by a program of this repo out of the translation.) -/
import Derived.Test.YtpdpggndhmnggaaF0d
import Derived.Test.YtpdpggndhmnggaaF1d
import Derived.Test.YtpdpggndhmnggaaF16d
import Derived.Test.YtpdpggndhmnggaaF17d
import Derived.Test.YtpdpggndhmnggaaF19d
import Derived.Test.YtpdpggndhmnggaaF20d
import Derived.Test.YtpdpggndhmnggaaF21d
namespace Go.Proofs.Ytpdpggndhmnggaa.F
open Go.RowKit Go.Proofs.YtpdpggndhmnggaaW.PrintWords Go.Proofs.YtpdpggndhmnggaaW.PrintLast Go.Proofs.YtpdpggndhmnggaaW.PrintMore
attribute [local go_sem high] xor_u64 xor_u32 eqErr25 neErr25 eqErrL25 neErrL25
attribute [local go_sem] max2_int min2_int max_two min_two max_three min_three max_four min_four   -- for this text's walks alone
set_option linter.unusedVariables false
set_option linter.unusedSimpArgs false
attribute [local go_sem high] eqA61
def vernierref07_Held.f (a0 : Int) : Option (Int) := if a0 < (-1099511627776) then (some (-1099511627776)) else (if a0 > 1099511627776 then (some 1099511627776) else (some a0))
set_option maxHeartbeats 8000000 in
set_option maxRecDepth 100000 in
theorem vernierref07_Held.calls (a0 : Int) (r : Int) (w : World) (h : vernierref07_Held.f a0 = some r) :
  Calls Try.prog 68 #[.int .i64 a0] w fun e w' => e = .returned (.int .i64 r) ∧ Drawn0 w w' := by
 have H : (if a0 < (-1099511627776) then (some (-1099511627776)) else (if a0 > 1099511627776 then (some 1099511627776) else (some a0))) = some r := h
 clear h
 by_cases c2 : a0 < (-1099511627776)
 ·
  rw [if_pos c2] at H
  have c2b0 : decide (a0 < (-1099511627776)) = true := decide_eq_true c2
  clear c2
  obtain rfl := Option.some.inj H
  go_enter Try.func68, Try.ntmps68
  go_wp2
  go_ret
  exact ⟨by first | rfl | (simp; done) | (simp [*]; done), by repeat (first | exact Drawn0.refl _ | apply Drawn0.step)⟩
 ·
  rw [if_neg c2] at H
  have c2b0 : decide (a0 < (-1099511627776)) = false := decide_eq_false c2
  clear c2
  by_cases c3 : a0 > 1099511627776
  ·
   rw [if_pos c3] at H
   have c3b0 : decide (1099511627776 < a0) = true := decide_eq_true c3
   clear c3
   obtain rfl := Option.some.inj H
   go_enter Try.func68, Try.ntmps68
   go_wp2
   go_ret
   exact ⟨by first | rfl | (simp; done) | (simp [*]; done), by repeat (first | exact Drawn0.refl _ | apply Drawn0.step)⟩
  ·
   rw [if_neg c3] at H
   have c3b0 : decide (1099511627776 < a0) = false := decide_eq_false c3
   clear c3
   obtain rfl := Option.some.inj H
   go_enter Try.func68, Try.ntmps68
   go_wp2
   go_ret
   exact ⟨by first | rfl | (simp; done) | (simp [*]; done), by repeat (first | exact Drawn0.refl _ | apply Drawn0.step)⟩
mutual
def vernierref07_Exactly.j0 : Nat → List Int → Bool → Int → Int → Bool → Int → Int → Int → Bool → Option (Int × Bool × Int × Int × Int × Bool)
 | 0, _, _, _, _, _, _, _, _, _ => none
 | k + 1, x1, x3, x9, x387000, x387001, x387002, x387003, x387004, x387005 => if x9 > 128 then ((vernierref04_Low.f k x1 (wrap64 (x9 - 128))).bind fun t390 => (if x3 = true then (vernierref07_Exactly.j1 k x1 x9 x387000 x387001 x387002 x387003 x387004 true) else (vernierref07_Exactly.j1 k x1 x9 x387000 x387001 x387002 x387003 x387004 t390))) else ((vernierref04_Word.f k x1).bind fun t399 => ((vernierref04_Shr.f k x1 64).bind fun t400 => ((vernierref04_Word.f k t400).bind fun t403 => (some (x387000, x387001, x387002, t403, t399, x387005)))))
def vernierref07_Exactly.j1 : Nat → List Int → Int → Int → Bool → Int → Int → Int → Bool → Option (Int × Bool × Int × Int × Int × Bool)
 | 0, _, _, _, _, _, _, _, _ => none
 | k + 1, x1, x9, x387000, x387001, x387002, x387003, x387004, x387005 => (vernierref04_Shr.f k x1 (wrap64 (x9 - 128))).bind fun t391 => ((vernierref04_Word.f k t391).bind fun t394 => ((vernierref04_Shr.f k t391 64).bind fun t395 => ((vernierref04_Word.f k t395).bind fun t398 => (some (x387000, x387001, x387002, t398, t394, x387005)))))
end
def vernierref07_Exactly.f (k : Nat) (a0 : Bool) (l1 : List Int) (a2 : Int) (a3 : Bool) : Option (Int × Bool × Int × Int × Int × Bool) := (vernierref04_Bits.f k l1).bind fun t384 => (if t384 = 0 then (some (0, false, 0, 0, 0, false)) else ((vernierref07_Held.f (wrap64 ((wrap64 (a2 + t384)) - 1))).bind fun t385 => (if t384 < 128 then ((vernierref04_Shl.f k l1 (wrap64 (128 - t384))).bind fun t387 => (vernierref07_Exactly.j0 k t387 a3 t384 1 a0 t385 0 0 a3)) else (vernierref07_Exactly.j0 k l1 a3 t384 1 a0 t385 0 0 a3))))
set_option maxHeartbeats 8000000 in
set_option maxRecDepth 100000 in
theorem vernierref07_Exactly.calls (k : Nat) (a0 : Bool) (P1_ : Nat → Prop) (u9000_ : Value) (l1 : List Int) (a2 : Int) (a3 : Bool) (r1 : Int) (r2 : Bool) (r3 : Int) (r4 : Int) (r5 : Int) (r6 : Bool) (w0 w : World) (hB : Below w0.heap.size w0 w) (ho1 : Kd.R (Kd.int .i64) 3 w w0.heap.size P1_ u9000_ l1) (h : vernierref07_Exactly.f k a0 l1 a2 a3 = some (r1, r2, r3, r4, r5, r6)) :
  Calls Try.prog 40 #[.bool a0, u9000_, .int .i64 a2, .bool a3] w fun e w' => e = .returned (.agg #[.int .i64 r1, .bool r2, .int .i64 r3, .int .u64 r4, .int .u64 r5, .bool r6]) ∧ Below w0.heap.size w0 w' ∧ Kept w w' (fun k_ => P1_ k_) := by
 have hu61 := Try.underlying61
 have HO1 := Aside0.mk (show Kd.R (Kd.int .i64) 3 w w0.heap.size (fun k_ => (P1_ k_ ∨ w.heap.size ≤ k_)) u9000_ l1 from Kd.R_mono ho1 (fun k_ hk => (.inl hk)))
 have HK := Aside0.mk (Kept.refl w (fun k_ => P1_ k_))
 have HW0 := Aside0.mk hB.size
 have HB := Aside0.mk hB
 clear hB
 have H : ((vernierref04_Bits.f k l1).bind fun t384 => (if t384 = 0 then (some (0, false, 0, 0, 0, false)) else ((vernierref07_Held.f (wrap64 ((wrap64 (a2 + t384)) - 1))).bind fun t385 => (if t384 < 128 then ((vernierref04_Shl.f k l1 (wrap64 (128 - t384))).bind fun t387 => (vernierref07_Exactly.j0 k t387 a3 t384 1 a0 t385 0 0 a3)) else (vernierref07_Exactly.j0 k l1 a3 t384 1 a0 t385 0 0 a3))))) = some (r1, r2, r3, r4, r5, r6) := h
 clear h
 replace H := Option.bind_eq_some_iff.mp H
 obtain ⟨t384, A50, H⟩ := H
 try dsimp -simprocs only at H
 have A5 := Aside0.mk A50
 clear A50
 by_cases c6 : t384 = 0
 ·
  rw [if_pos c6] at H
  have c6b0 : (t384 == 0) = true := beq_iff_eq.mpr c6
  have c6b1 : (t384 != 0) = false := bne_eq_false_iff_eq.mpr c6
  clear c6
  simp only [Option.some.injEq, Prod.mk.injEq] at H
  obtain ⟨rfl, rfl, rfl, rfl, rfl, rfl⟩ := H
  go_enter Try.func40, Try.ntmps40
  go_wp2_with (first | ((with_reducible refine gD (N := 8) rfl ?_); refine bE3 8 #[.int .i64 0, .bool false, .int .i64 0, .int .u64 0, .int .u64 0, .bool false] 61 ?hr ?_; (case hr => first | (go_simp; done) | (go_simp; rfl)); intro gb383 hg w7 hbox hb; replace HO1 := Aside0.mk (Kd.R_below (by (with_reducible repeat (first | apply Kd.R_alloc | apply Kd.R_drewN | apply Kd.R_drew)); exact HO1.out) hb); have BK383 := Aside0.mk (hbox); have GW383 := Aside0.mk ((by rw [hg]; exact (by first | exact HK.out.1 | exact (show Kept w _ (fun k_ => P1_ k_) from by repeat (first | (with_reducible first | exact HK.out | apply Kept.alloc | apply Kept.drewN | apply Kept.drew) | exact HK.out)).1) : w.heap.size ≤ gb383)); replace HK := Aside0.mk (Kept.below (S := (fun k_ => P1_ k_)) (by repeat (first | (with_reducible first | exact HK.out | apply Kept.alloc | apply Kept.drewN | apply Kept.drew) | exact HK.out)) hb); have GE383 := Aside0.mk ((by rw [hg]; exact (bZ (bR3 HB.out)) : w0.heap.size ≤ gb383)); replace HB := Aside0.mk (bS3 HB.out hb); clear hb hbox hg; obtain ⟨Ao8, co8, eo8⟩ := Kd.R_slice HO1.out; subst eo8) | ((with_reducible refine gX_ 67 13 rfl rfl ?_); refine goesY_ (some 13) Try.func67 #[.slice Ao8 l1.length co8] ?_; (with_reducible refine (vernierref04_Bits.calls k _ _ l1 t384 _ ?side1 ?side2 A5.out).mono ?_); (case side1 => repeat (first | exact (Kd.R_reads' HO1.out).2.2 | (with_reducible refine Kd.C_alloc ?_ _) | (with_reducible refine Kd.C_drewN ?_ _) | (with_reducible refine Kd.C_drew ?_))); (case side2 => exact (Kd.R_reads' HO1.out).2.1); rintro e w' ⟨rfl, ⟨nd, rfl⟩⟩; refine ⟨_, rfl, ?_⟩; (try (rw [drewN_self w7]; generalize hq_ : World.drewN w7 _ = w7; have n0_ : Aside0 (Kd.R (Kd.int .i64) 3 w7 w0.heap.size (fun k_ => (P1_ k_ ∨ w.heap.size ≤ k_)) (.slice Ao8 l1.length co8) l1) := ⟨by rw [← hq_]; exact (by (with_reducible repeat (first | apply Kd.R_alloc | apply Kd.R_drewN | apply Kd.R_drew)); exact HO1.out)⟩; have n1_ : Aside0 (w7.heap[gb383]? = some (.cells #[.int .i64 0, .bool false, .int .i64 0, .int .u64 0, .int .u64 0, .bool false] 61 (0, 0))) := ⟨by rw [← hq_]; exact (bK3 BK383.out)⟩; have n2_ : Aside0 (Kept w w7 (fun k_ => P1_ k_)) := ⟨by rw [← hq_]; exact (by repeat (first | (with_reducible first | exact HK.out | apply Kept.alloc | apply Kept.drewN | apply Kept.drew | refine Kept.setCell ?_ (.inr GW383.out) _) | exact HK.out))⟩; have n3_ : Aside0 (Below w0.heap.size w0 w7) := ⟨by rw [← hq_]; exact (bR3 HB.out)⟩; clear HO1 BK383 HK HB hq_; have HO1 := n0_; have BK383 := n1_; have HK := n2_; have HB := n3_; clear n0_ n1_ n2_ n3_)); obtain ⟨hcz9_0, hcz9_1, hcz9_2, hcz9_3, hcz9_4, hcz9_5, hfz9_0, hfz9_1, hfz9_2, hfz9_3, hfz9_4, hfz9_5⟩ := cl6 BK383.out))
  refine bodyPost_ret (results_cell_row rfl _ _ gb383 61 #[.int .i64 0, .bool false, .int .i64 0, .int .u64 0, .int .u64 0, .bool false] (0, 0) _ rfl (bQ3 BK383.out) Try.underlying61 rfl (by kernel_rfl)) rfl ?_
  exact ⟨eR3, bR3 HB.out, by repeat (first | (with_reducible first | exact HK.out | apply Kept.alloc | apply Kept.drewN | apply Kept.drew | refine Kept.setCell ?_ (.inr GW383.out) _) | exact HK.out)⟩
 ·
  rw [if_neg c6] at H
  have c6b0 : (t384 == 0) = false := beq_eq_false_iff_ne.mpr c6
  have c6b1 : (t384 != 0) = true := bne_iff_ne.mpr c6
  replace H := Option.bind_eq_some_iff.mp H
  obtain ⟨t385, A100, H⟩ := H
  try dsimp -simprocs only at H
  have A10 := Aside0.mk A100
  clear A100
  have HC11 := Aside0.mk H
  clear H
  go_enter Try.func40, Try.ntmps40
  go_upto_if 26 with (first | ((with_reducible refine gD (N := 8) rfl ?_); refine bE3 8 #[.int .i64 0, .bool false, .int .i64 0, .int .u64 0, .int .u64 0, .bool false] 61 ?hr ?_; (case hr => first | (go_simp; done) | (go_simp; rfl)); intro gb383 hg w12 hbox hb; replace HO1 := Aside0.mk (Kd.R_below (by (with_reducible repeat (first | apply Kd.R_alloc | apply Kd.R_drewN | apply Kd.R_drew)); exact HO1.out) hb); have BK383 := Aside0.mk (hbox); have GW383 := Aside0.mk ((by rw [hg]; exact (by first | exact HK.out.1 | exact (show Kept w _ (fun k_ => P1_ k_) from by repeat (first | (with_reducible first | exact HK.out | apply Kept.alloc | apply Kept.drewN | apply Kept.drew) | exact HK.out)).1) : w.heap.size ≤ gb383)); replace HK := Aside0.mk (Kept.below (S := (fun k_ => P1_ k_)) (by repeat (first | (with_reducible first | exact HK.out | apply Kept.alloc | apply Kept.drewN | apply Kept.drew) | exact HK.out)) hb); have GE383 := Aside0.mk ((by rw [hg]; exact (bZ (bR3 HB.out)) : w0.heap.size ≤ gb383)); replace HB := Aside0.mk (bS3 HB.out hb); clear hb hbox hg; obtain ⟨Ao13, co13, eo13⟩ := Kd.R_slice HO1.out; subst eo13) | ((with_reducible refine gX_ 67 13 rfl rfl ?_); refine goesY_ (some 13) Try.func67 #[.slice Ao13 l1.length co13] ?_; (with_reducible refine (vernierref04_Bits.calls k _ _ l1 t384 _ ?side1 ?side2 A5.out).mono ?_); (case side1 => repeat (first | exact (Kd.R_reads' HO1.out).2.2 | (with_reducible refine Kd.C_alloc ?_ _) | (with_reducible refine Kd.C_drewN ?_ _) | (with_reducible refine Kd.C_drew ?_))); (case side2 => exact (Kd.R_reads' HO1.out).2.1); rintro e w' ⟨rfl, ⟨nd, rfl⟩⟩; refine ⟨_, rfl, ?_⟩; (try (rw [drewN_self w12]; generalize hq_ : World.drewN w12 _ = w12; have n0_ : Aside0 (Kd.R (Kd.int .i64) 3 w12 w0.heap.size (fun k_ => (P1_ k_ ∨ w.heap.size ≤ k_)) (.slice Ao13 l1.length co13) l1) := ⟨by rw [← hq_]; exact (by (with_reducible repeat (first | apply Kd.R_alloc | apply Kd.R_drewN | apply Kd.R_drew)); exact HO1.out)⟩; have n1_ : Aside0 (w12.heap[gb383]? = some (.cells #[.int .i64 0, .bool false, .int .i64 0, .int .u64 0, .int .u64 0, .bool false] 61 (0, 0))) := ⟨by rw [← hq_]; exact (bK3 BK383.out)⟩; have n2_ : Aside0 (Kept w w12 (fun k_ => P1_ k_)) := ⟨by rw [← hq_]; exact (by repeat (first | (with_reducible first | exact HK.out | apply Kept.alloc | apply Kept.drewN | apply Kept.drew | refine Kept.setCell ?_ (.inr GW383.out) _) | exact HK.out))⟩; have n3_ : Aside0 (Below w0.heap.size w0 w12) := ⟨by rw [← hq_]; exact (bR3 HB.out)⟩; clear HO1 BK383 HK HB hq_; have HO1 := n0_; have BK383 := n1_; have HK := n2_; have HB := n3_; clear n0_ n1_ n2_ n3_))) | ((with_reducible refine gX_ 68 22 rfl rfl ?_); refine goesY_ (some 22) Try.func68 #[.int .i64 (wrap64 ((wrap64 (a2 + t384)) - 1))] ?_; (with_reducible refine (vernierref07_Held.calls (wrap64 ((wrap64 (a2 + t384)) - 1)) t385 _ A10.out).mono ?_); rintro e w' ⟨rfl, ⟨nd, rfl⟩⟩; refine ⟨_, rfl, ?_⟩; (try (rw [drewN_self w12]; generalize hq_ : World.drewN w12 _ = w12; have n0_ : Aside0 (Kd.R (Kd.int .i64) 3 w12 w0.heap.size (fun k_ => (P1_ k_ ∨ w.heap.size ≤ k_)) (.slice Ao13 l1.length co13) l1) := ⟨by rw [← hq_]; exact (by (with_reducible repeat (first | apply Kd.R_alloc | apply Kd.R_drewN | apply Kd.R_drew)); exact HO1.out)⟩; have n1_ : Aside0 (w12.heap[gb383]? = some (.cells #[.int .i64 0, .bool false, .int .i64 0, .int .u64 0, .int .u64 0, .bool false] 61 (0, 0))) := ⟨by rw [← hq_]; exact (bK3 BK383.out)⟩; have n2_ : Aside0 (Kept w w12 (fun k_ => P1_ k_)) := ⟨by rw [← hq_]; exact (by repeat (first | (with_reducible first | exact HK.out | apply Kept.alloc | apply Kept.drewN | apply Kept.drew | refine Kept.setCell ?_ (.inr GW383.out) _) | exact HK.out))⟩; have n3_ : Aside0 (Below w0.heap.size w0 w12) := ⟨by rw [← hq_]; exact (bR3 HB.out)⟩; clear HO1 BK383 HK HB hq_; have HO1 := n0_; have BK383 := n1_; have HK := n2_; have HB := n3_; clear n0_ n1_ n2_ n3_))) | ((with_reducible refine gD (N := 10) rfl ?_); refine bE3 10 #[.int .i64 0, .bool false, .int .i64 0, .int .u64 0, .int .u64 0, .bool false] 61 ?hr ?_; (case hr => first | (go_simp; done) | (go_simp; rfl)); intro gb386 hg w14 hbox hb; replace HO1 := Aside0.mk (Kd.R_below (by (with_reducible repeat (first | apply Kd.R_alloc | apply Kd.R_drewN | apply Kd.R_drew)); exact HO1.out) hb); have BK386 := Aside0.mk (hbox); have GW386 := Aside0.mk ((by rw [hg]; exact (by first | exact HK.out.1 | exact (show Kept w _ (fun k_ => P1_ k_) from by repeat (first | (with_reducible first | exact HK.out | apply Kept.alloc | apply Kept.drewN | apply Kept.drew | refine Kept.setCell ?_ (.inr GW383.out) _) | exact HK.out)).1) : w.heap.size ≤ gb386)); replace HK := Aside0.mk (Kept.below (S := (fun k_ => P1_ k_)) (by repeat (first | (with_reducible first | exact HK.out | apply Kept.alloc | apply Kept.drewN | apply Kept.drew | refine Kept.setCell ?_ (.inr GW383.out) _) | exact HK.out)) hb); have GE386 := Aside0.mk ((by rw [hg]; exact (bZ (bR3 HB.out)) : w0.heap.size ≤ gb386)); replace HB := Aside0.mk (bS3 HB.out hb); have NB383_386 := Aside0.mk ((bL3 hg BK383.out)); have NB386_383 := Aside0.mk ((bG3 hg BK383.out)); replace BK383 := Aside0.mk (bB3 BK383.out hb); clear hb hbox hg; have hnb15 := NB386_383.out; have hnc15 := NB383_386.out; obtain ⟨hcz16_0, hcz16_1, hcz16_2, hcz16_3, hcz16_4, hcz16_5, hfz16_0, hfz16_1, hfz16_2, hfz16_3, hfz16_4, hfz16_5⟩ := cl6 BK386.out))
  (try simp only [Act.put, lS_, lZ_, lC_])
  go_cut [1] (fun v1 wc => ∃ (kq : Nat) (x1_10 : List Int), Aside0 (vernierref07_Exactly.j0 kq x1_10 a3 t384 1 a0 t385 0 0 a3 = some (r1, r2, r3, r4, r5, r6)) ∧ Aside0 (kq ≤ k) ∧ Aside0 (Kd.R (Kd.int .i64) 3 wc w0.heap.size (fun k_ => (P1_ k_ ∨ w.heap.size ≤ k_)) v1 x1_10) ∧ Aside0 (wc.heap[gb383]? = some (.cells #[.int .i64 0, .bool false, .int .i64 0, .int .u64 0, .int .u64 0, .bool false] 61 (0, 0))) ∧ Aside0 (wc.heap[gb386]? = some (.cells #[.int .i64 1, .bool a0, .int .i64 t385, .int .u64 0, .int .u64 0, .bool a3] 61 (0, 0))) ∧ Aside0 (Kept w wc (fun k_ => P1_ k_)) ∧ Aside0 (Below w0.heap.size w0 wc))
  case first =>
   have H := HC11.out
   clear HC11
   by_cases c17 : t384 < 128
   ·
    rw [if_pos c17] at H
    have c17b0 : decide (t384 < 128) = true := decide_eq_true c17
    clear c17
    (first | rw [c17b0] | (simp only [i64_w, i32_w]; rw [c17b0]) | skip)
    replace H := Option.bind_eq_some_iff.mp H
    obtain ⟨t387, A180, H⟩ := H
    try dsimp -simprocs only at H
    have A18 := Aside0.mk A180
    clear A180
    have H' := Aside0.mk H
    clear H
    go_wp2_with (first | ((with_reducible refine gX_ 50 30 rfl rfl ?_); refine goesY_ (some 30) Try.func50 #[.slice Ao13 l1.length co13, .int .i64 (wrap64 (128 - t384))] ?_; (with_reducible refine (vernierref04_Shl.calls k _ _ l1 (wrap64 (128 - t384)) t387 _ ?side1 ?side2 A18.out).mono ?_); (case side1 => refine (Kd.R_reads' (e := 3) (base := w0.heap.size) (ok := fun k_ => (P1_ k_ ∨ w.heap.size ≤ k_)) (n := l1.length) (c := co13) ?_).2.2; exact (by (with_reducible repeat (first | apply Kd.R_alloc | apply Kd.R_drewN | apply Kd.R_drew)); exact (Kd.R_mono (Kd.R_far (p := ⟨gb386, 5, none⟩) (Kd.R_far (p := ⟨gb386, 4, none⟩) (Kd.R_far (p := ⟨gb386, 3, none⟩) (Kd.R_far (p := ⟨gb386, 2, none⟩) (Kd.R_far (p := ⟨gb386, 1, none⟩) (Kd.R_far (p := ⟨gb386, 0, none⟩) (Kd.R_types HO1.out BK386.out (by decide)) (fun _ hk => hk.2) (.int .i64 1)) (fun _ hk => hk.2) (.bool a0)) (fun _ hk => hk.2) (.int .i64 t385)) (fun _ hk => hk.2) (.int .u64 0)) (fun _ hk => hk.2) (.int .u64 0)) (fun _ hk => hk.2) (.bool a3)) (fun _ h_ => h_.1)))); (case side2 => exact (Kd.R_reads' HO1.out).2.1); rintro e w19 ⟨v388, rfl, ho0, hb⟩; refine ⟨_, rfl, ?_⟩; have HO389 := Aside0.mk (Kd.R_lower (Kd.R_new' (Kd.R_newM (M := fun k_ => (P1_ k_ ∨ w.heap.size ≤ k_)) ho0 (show Kept w _ (fun k_ => P1_ k_) from by repeat (first | (with_reducible first | exact HK.out | apply Kept.alloc | apply Kept.drewN | apply Kept.drew | refine Kept.setCell ?_ (.inr GW383.out) _ | refine Kept.setCell ?_ (.inr GW386.out) _) | exact HK.out)).1 (fun k_ h_ => .inr h_)) (Kd.R_lt (by (with_reducible repeat (first | apply Kd.R_alloc | apply Kd.R_drewN | apply Kd.R_drew)); exact (Kd.R_mono (Kd.R_far (p := ⟨gb386, 5, none⟩) (Kd.R_far (p := ⟨gb386, 4, none⟩) (Kd.R_far (p := ⟨gb386, 3, none⟩) (Kd.R_far (p := ⟨gb386, 2, none⟩) (Kd.R_far (p := ⟨gb386, 1, none⟩) (Kd.R_far (p := ⟨gb386, 0, none⟩) (Kd.R_types HO1.out BK386.out (by decide)) (fun _ hk => hk.2) (.int .i64 1)) (fun _ hk => hk.2) (.bool a0)) (fun _ hk => hk.2) (.int .i64 t385)) (fun _ hk => hk.2) (.int .u64 0)) (fun _ hk => hk.2) (.int .u64 0)) (fun _ hk => hk.2) (.bool a3)) (fun _ h_ => h_.1))))) (bZ (bR3 HB.out))); replace HO1 := Aside0.mk (Kd.R_elder' (by (with_reducible repeat (first | apply Kd.R_alloc | apply Kd.R_drewN | apply Kd.R_drew)); exact (Kd.R_mono (Kd.R_far (p := ⟨gb386, 5, none⟩) (Kd.R_far (p := ⟨gb386, 4, none⟩) (Kd.R_far (p := ⟨gb386, 3, none⟩) (Kd.R_far (p := ⟨gb386, 2, none⟩) (Kd.R_far (p := ⟨gb386, 1, none⟩) (Kd.R_far (p := ⟨gb386, 0, none⟩) (Kd.R_types HO1.out BK386.out (by decide)) (fun _ hk => hk.2) (.int .i64 1)) (fun _ hk => hk.2) (.bool a0)) (fun _ hk => hk.2) (.int .i64 t385)) (fun _ hk => hk.2) (.int .u64 0)) (fun _ hk => hk.2) (.int .u64 0)) (fun _ hk => hk.2) (.bool a3)) (fun _ h_ => h_.1))) (Kd.R_base ho0) hb); replace BK383 := Aside0.mk (bB (g := gb383) (o := .cells #[.int .i64 0, .bool false, .int .i64 0, .int .u64 0, .int .u64 0, .bool false] 61 (0, 0)) (bQ3 BK383.out) hb); replace BK386 := Aside0.mk (bB (g := gb386) (o := .cells #[.int .i64 1, .bool a0, .int .i64 t385, .int .u64 0, .int .u64 0, .bool a3] 61 (0, 0)) (bQ3 BK386.out) hb); replace HK := Aside0.mk (Kept.below (S := (fun k_ => P1_ k_)) (by repeat (first | (with_reducible first | exact HK.out | apply Kept.alloc | apply Kept.drewN | apply Kept.drew | refine Kept.setCell ?_ (.inr GW383.out) _ | refine Kept.setCell ?_ (.inr GW386.out) _) | exact HK.out)) hb); replace HB := Aside0.mk (bS3 HB.out hb); (try clear hb); (try clear hk); (try clear ho0)))
    go_meet
    case rel => exact ⟨_, (t387), H', ⟨by first | omega | exact Nat.le_refl _⟩, ⟨by (with_reducible repeat (first | apply Kd.R_alloc | apply Kd.R_drewN | apply Kd.R_drew)); exact Kd.R_mono HO389.out (fun _ hk => hk.1.1)⟩, ⟨bK3 BK383.out⟩, ⟨bK3 BK386.out⟩, ⟨by repeat (first | (with_reducible first | exact HK.out | apply Kept.alloc | apply Kept.drewN | apply Kept.drew | refine Kept.setCell ?_ (.inr GW383.out) _ | refine Kept.setCell ?_ (.inr GW386.out) _) | exact HK.out)⟩, ⟨bR3 HB.out⟩⟩
   ·
    rw [if_neg c17] at H
    have c17b0 : decide (t384 < 128) = false := decide_eq_false c17
    clear c17
    (first | rw [c17b0] | (simp only [i64_w, i32_w]; rw [c17b0]) | skip)
    have H' := Aside0.mk H
    clear H
    go_wp2
    go_meet
    case rel => exact ⟨_, (l1), H', ⟨by first | omega | exact Nat.le_refl _⟩, ⟨by (with_reducible repeat (first | apply Kd.R_alloc | apply Kd.R_drewN | apply Kd.R_drew)); exact Kd.R_mono (Kd.R_far (p := ⟨gb386, 5, none⟩) (Kd.R_far (p := ⟨gb386, 4, none⟩) (Kd.R_far (p := ⟨gb386, 3, none⟩) (Kd.R_far (p := ⟨gb386, 2, none⟩) (Kd.R_far (p := ⟨gb386, 1, none⟩) (Kd.R_far (p := ⟨gb386, 0, none⟩) (Kd.R_types HO1.out BK386.out (by decide)) (fun _ hk => hk.2) (.int .i64 1)) (fun _ hk => hk.2) (.bool a0)) (fun _ hk => hk.2) (.int .i64 t385)) (fun _ hk => hk.2) (.int .u64 0)) (fun _ hk => hk.2) (.int .u64 0)) (fun _ hk => hk.2) (.bool a3)) (fun _ hk => hk.1)⟩, ⟨bQ3 BK383.out⟩, ⟨bQ3 BK386.out⟩, ⟨by repeat (first | (with_reducible first | exact HK.out | apply Kept.alloc | apply Kept.drewN | apply Kept.drew | refine Kept.setCell ?_ (.inr GW383.out) _ | refine Kept.setCell ?_ (.inr GW386.out) _) | exact HK.out)⟩, ⟨bR3 HB.out⟩⟩
  case rest =>
   clear HC11
   try clear c1
   try clear p2
   try clear c4
   try clear c5
   try clear c6
   try clear c6b0
   try clear c6b1
   try clear p6
   try clear c15
   try clear c17
   try clear c17b0
   try clear hcz16_0 hcz16_1 hcz16_2 hcz16_3 hcz16_4 hcz16_5
   try clear hcz9_0 hcz9_1 hcz9_2 hcz9_3 hcz9_4 hcz9_5
   try clear hfz16_0 hfz16_1 hfz16_2 hfz16_3 hfz16_4 hfz16_5
   try clear hfz9_0 hfz9_1 hfz9_2 hfz9_3 hfz9_4 hfz9_5
   obtain ⟨kq, x1_10, HA, HJ10, HO_1, BK383, BK386, HK, HB⟩ := hcut
   cases kq with
   | zero => exact absurd HA.out (by simp [vernierref07_Exactly.j0])
   | succ kj10 =>
    have H := HA.out
    clear HA
    simp only [vernierref07_Exactly.j0] at H
    by_cases c20 : t384 > 128
    ·
     rw [if_pos c20] at H
     have c20b0 : decide (128 < t384) = true := decide_eq_true c20
     clear c20
     replace H := Option.bind_eq_some_iff.mp H
     obtain ⟨t390, A210, H⟩ := H
     try dsimp -simprocs only at H
     have A21 := Aside0.mk A210
     clear A210
     have HC22 := Aside0.mk H
     clear H
     obtain ⟨Ao23, co23, eo23⟩ := Kd.R_slice HO_1.out
     subst eo23
     go_upto_region 9 with (first | ((with_reducible refine gX_ 53 36 rfl rfl ?_); refine goesY_ (some 36) Try.func53 #[.slice Ao23 x1_10.length co23, .int .i64 (wrap64 (t384 - 128))] ?_; (with_reducible refine (vernierref04_Low.calls kj10 _ _ x1_10 (wrap64 (t384 - 128)) t390 _ ?side1 ?side2 A21.out).mono ?_); (case side1 => repeat (first | exact (Kd.R_reads' HO_1.out).2.2 | (with_reducible refine Kd.C_alloc ?_ _) | (with_reducible refine Kd.C_drewN ?_ _) | (with_reducible refine Kd.C_drew ?_))); (case side2 => exact (Kd.R_reads' HO_1.out).2.1); rintro e w' ⟨rfl, ⟨nd, rfl⟩⟩; refine ⟨_, rfl, ?_⟩))
     (try simp only [Act.put, lS_, lZ_, lC_])
     go_cut [] (fun wc => ∃ (kq : Nat) (x387005_21 : Bool), Aside0 (vernierref07_Exactly.j1 kq x1_10 t384 1 a0 t385 0 0 x387005_21 = some (r1, r2, r3, r4, r5, r6)) ∧ Aside0 (kq ≤ kj10) ∧ Aside0 (Kd.R (Kd.int .i64) 3 wc w0.heap.size (fun k_ => (P1_ k_ ∨ w.heap.size ≤ k_)) (.slice Ao23 x1_10.length co23) x1_10) ∧ Aside0 (wc.heap[gb383]? = some (.cells #[.int .i64 0, .bool false, .int .i64 0, .int .u64 0, .int .u64 0, .bool false] 61 (0, 0))) ∧ Aside0 (wc.heap[gb386]? = some (.cells #[.int .i64 1, .bool a0, .int .i64 t385, .int .u64 0, .int .u64 0, .bool x387005_21] 61 (0, 0))) ∧ Aside0 (Kept w wc (fun k_ => P1_ k_)) ∧ Aside0 (Below w0.heap.size w0 wc))
     case first =>
      have H := HC22.out
      clear HC22
      by_cases c24 : a3 = true
      ·
       subst c24
       rw [if_pos rfl] at H
       have H' := Aside0.mk H
       clear H
       have hnb25 := NB386_383.out
       have hnc25 := NB383_386.out
       obtain ⟨hcz26_0, hcz26_1, hcz26_2, hcz26_3, hcz26_4, hcz26_5, hfz26_0, hfz26_1, hfz26_2, hfz26_3, hfz26_4, hfz26_5⟩ := cl6 BK386.out
       go_wp2
       go_meet
       case rel => exact ⟨_, (true), H', ⟨by have := HJ10.out; first | omega | exact Nat.le_refl _⟩, ⟨by (with_reducible repeat (first | apply Kd.R_alloc | apply Kd.R_drewN | apply Kd.R_drew)); exact Kd.R_mono (Kd.R_far (p := ⟨gb386, 5, none⟩) (Kd.R_types HO_1.out BK386.out (by decide)) (fun _ hk => hk.2) (.bool true)) (fun _ hk => hk.1)⟩, ⟨bQ3 BK383.out⟩, ⟨bQ3 BK386.out⟩, ⟨by repeat (first | (with_reducible first | exact HK.out | apply Kept.alloc | apply Kept.drewN | apply Kept.drew | refine Kept.setCell ?_ (.inr GW383.out) _ | refine Kept.setCell ?_ (.inr GW386.out) _) | exact HK.out)⟩, ⟨bR3 HB.out⟩⟩
      ·
       replace c24 := Bool.eq_false_iff.mpr c24
       subst c24
       rw [if_neg (show ¬ (false = true) by decide)] at H
       have H' := Aside0.mk H
       clear H
       have hnb27 := NB386_383.out
       have hnc27 := NB383_386.out
       obtain ⟨hcz28_0, hcz28_1, hcz28_2, hcz28_3, hcz28_4, hcz28_5, hfz28_0, hfz28_1, hfz28_2, hfz28_3, hfz28_4, hfz28_5⟩ := cl6 BK386.out
       go_wp2
       go_meet
       case rel => exact ⟨_, (t390), H', ⟨by have := HJ10.out; first | omega | exact Nat.le_refl _⟩, ⟨by (with_reducible repeat (first | apply Kd.R_alloc | apply Kd.R_drewN | apply Kd.R_drew)); exact Kd.R_mono (Kd.R_far (p := ⟨gb386, 5, none⟩) (Kd.R_types HO_1.out BK386.out (by decide)) (fun _ hk => hk.2) (.bool t390)) (fun _ hk => hk.1)⟩, ⟨bQ3 BK383.out⟩, ⟨bQ3 BK386.out⟩, ⟨by repeat (first | (with_reducible first | exact HK.out | apply Kept.alloc | apply Kept.drewN | apply Kept.drew | refine Kept.setCell ?_ (.inr GW383.out) _ | refine Kept.setCell ?_ (.inr GW386.out) _) | exact HK.out)⟩, ⟨bR3 HB.out⟩⟩
     case rest =>
      clear HC22
      try clear c1
      try clear c2
      try clear p2
      try clear c4
      try clear c5
      try clear c6
      try clear c6b0
      try clear c6b1
      try clear p6
      try clear c15
      try clear c17
      try clear c17b0
      try clear c20
      try clear c20b0
      try clear c24
      try clear c25
      try clear c27
      try clear hcz16_0 hcz16_1 hcz16_2 hcz16_3 hcz16_4 hcz16_5
      try clear hcz26_0 hcz26_1 hcz26_2 hcz26_3 hcz26_4 hcz26_5
      try clear hcz28_0 hcz28_1 hcz28_2 hcz28_3 hcz28_4 hcz28_5
      try clear hcz9_0 hcz9_1 hcz9_2 hcz9_3 hcz9_4 hcz9_5
      try clear hfz16_0 hfz16_1 hfz16_2 hfz16_3 hfz16_4 hfz16_5
      try clear hfz26_0 hfz26_1 hfz26_2 hfz26_3 hfz26_4 hfz26_5
      try clear hfz28_0 hfz28_1 hfz28_2 hfz28_3 hfz28_4 hfz28_5
      try clear hfz9_0 hfz9_1 hfz9_2 hfz9_3 hfz9_4 hfz9_5
      try clear p2
      try clear p6
      obtain ⟨kq, x387005_21, HA, HJ21, HO_1, BK383, BK386, HK, HB⟩ := hcut
      cases kq with
      | zero => exact absurd HA.out (by simp [vernierref07_Exactly.j1])
      | succ kj21 =>
       have H := HA.out
       clear HA
       simp only [vernierref07_Exactly.j1] at H
       replace H := Option.bind_eq_some_iff.mp H
       obtain ⟨t391, A290, H⟩ := H
       try dsimp -simprocs only at H
       have A29 := Aside0.mk A290
       clear A290
       replace H := Option.bind_eq_some_iff.mp H
       obtain ⟨t394, A300, H⟩ := H
       try dsimp -simprocs only at H
       have A30 := Aside0.mk A300
       clear A300
       replace H := Option.bind_eq_some_iff.mp H
       obtain ⟨t395, A310, H⟩ := H
       try dsimp -simprocs only at H
       have A31 := Aside0.mk A310
       clear A310
       replace H := Option.bind_eq_some_iff.mp H
       obtain ⟨t398, A320, H⟩ := H
       try dsimp -simprocs only at H
       have A32 := Aside0.mk A320
       clear A320
       simp only [Option.some.injEq, Prod.mk.injEq] at H
       obtain ⟨rfl, rfl, rfl, rfl, rfl, rfl⟩ := H
       go_wp2_with (first | ((with_reducible refine gX_ 48 45 rfl rfl ?_); refine goesY_ (some 45) Try.func48 #[.slice Ao23 x1_10.length co23, .int .i64 (wrap64 (t384 - 128))] ?_; (with_reducible refine (vernierref04_Shr.calls kj21 _ _ x1_10 (wrap64 (t384 - 128)) t391 _ ?side1 ?side2 A29.out).mono ?_); (case side1 => repeat (first | exact (Kd.R_reads' HO_1.out).2.2 | (with_reducible refine Kd.C_alloc ?_ _) | (with_reducible refine Kd.C_drewN ?_ _) | (with_reducible refine Kd.C_drew ?_))); (case side2 => exact (Kd.R_reads' HO_1.out).2.1); rintro e w33 ⟨v392, rfl, ho0, hb⟩; refine ⟨_, rfl, ?_⟩; have HO393 := Aside0.mk (Kd.R_lower (Kd.R_new' (Kd.R_newM (M := fun k_ => (P1_ k_ ∨ w.heap.size ≤ k_)) ho0 (by first | exact HK.out.1 | exact (show Kept w _ (fun k_ => P1_ k_) from by repeat (first | (with_reducible first | exact HK.out | apply Kept.alloc | apply Kept.drewN | apply Kept.drew | refine Kept.setCell ?_ (.inr GW383.out) _ | refine Kept.setCell ?_ (.inr GW386.out) _) | exact HK.out)).1) (fun k_ h_ => .inr h_)) (Kd.R_lt (by (with_reducible repeat (first | apply Kd.R_alloc | apply Kd.R_drewN | apply Kd.R_drew)); exact HO_1.out))) (bZ (bR3 HB.out))); replace HO_1 := Aside0.mk (Kd.R_elder' (by (with_reducible repeat (first | apply Kd.R_alloc | apply Kd.R_drewN | apply Kd.R_drew)); exact HO_1.out) (Kd.R_base ho0) hb); replace BK383 := Aside0.mk (bB3 BK383.out hb); replace BK386 := Aside0.mk (bB3 BK386.out hb); replace HK := Aside0.mk (Kept.below (S := (fun k_ => P1_ k_)) (by repeat (first | (with_reducible first | exact HK.out | apply Kept.alloc | apply Kept.drewN | apply Kept.drew | refine Kept.setCell ?_ (.inr GW383.out) _ | refine Kept.setCell ?_ (.inr GW386.out) _) | exact HK.out)) hb); replace HB := Aside0.mk (bS3 HB.out hb); (try clear hb); (try clear hk); (try clear ho0); obtain ⟨Ao34, co34, eo34⟩ := Kd.R_slice HO393.out; subst eo34) | ((with_reducible refine gX_ 54 47 rfl rfl ?_); refine goesY_ (some 47) Try.func54 #[.slice Ao34 t391.length co34] ?_; (with_reducible refine (vernierref04_Word.calls kj21 _ _ t391 t394 _ ?side1 ?side2 A30.out).mono ?_); (case side1 => repeat (first | exact (Kd.R_reads' HO393.out).2.2 | (with_reducible refine Kd.C_alloc ?_ _) | (with_reducible refine Kd.C_drewN ?_ _) | (with_reducible refine Kd.C_drew ?_))); (case side2 => exact (Kd.R_reads' HO393.out).2.1); rintro e w' ⟨rfl, ⟨nd, rfl⟩⟩; refine ⟨_, rfl, ?_⟩; (try (rw [drewN_self w33]; generalize hq_ : World.drewN w33 _ = w33; have n0_ : Aside0 (Kd.R (Kd.int .i64) 3 w33 w0.heap.size (fun k_ => (P1_ k_ ∨ w.heap.size ≤ k_) ∧ some k_ ≠ (.slice Ao23 x1_10.length co23 : Value).ownBlock) (.slice Ao34 t391.length co34) t391) := ⟨by rw [← hq_]; exact (by (with_reducible repeat (first | apply Kd.R_alloc | apply Kd.R_drewN | apply Kd.R_drew)); exact Kd.R_mono HO393.out (fun _ hk => ⟨hk.1.1, hk.2⟩))⟩; have n1_ : Aside0 (Kd.R (Kd.int .i64) 3 w33 w0.heap.size (fun k_ => (P1_ k_ ∨ w.heap.size ≤ k_) ∧ some k_ ≠ (.slice Ao34 t391.length co34 : Value).ownBlock) (.slice Ao23 x1_10.length co23) x1_10) := ⟨by rw [← hq_]; exact (by (with_reducible repeat (first | apply Kd.R_alloc | apply Kd.R_drewN | apply Kd.R_drew)); exact HO_1.out)⟩; have n2_ : Aside0 (w33.heap[gb383]? = some (.cells #[.int .i64 0, .bool false, .int .i64 0, .int .u64 0, .int .u64 0, .bool false] 61 (0, 0))) := ⟨by rw [← hq_]; exact (bK3 BK383.out)⟩; have n3_ : Aside0 (w33.heap[gb386]? = some (.cells #[.int .i64 1, .bool a0, .int .i64 t385, .int .u64 0, .int .u64 0, .bool x387005_21] 61 (0, 0))) := ⟨by rw [← hq_]; exact (bK3 BK386.out)⟩; have n4_ : Aside0 (Kept w w33 (fun k_ => P1_ k_)) := ⟨by rw [← hq_]; exact (by repeat (first | (with_reducible first | exact HK.out | apply Kept.alloc | apply Kept.drewN | apply Kept.drew | refine Kept.setCell ?_ (.inr GW383.out) _ | refine Kept.setCell ?_ (.inr GW386.out) _) | exact HK.out))⟩; have n5_ : Aside0 (Below w0.heap.size w0 w33) := ⟨by rw [← hq_]; exact (bR3 HB.out)⟩; clear HO393 HO_1 BK383 BK386 HK HB hq_; have HO393 := n0_; have HO_1 := n1_; have BK383 := n2_; have BK386 := n3_; have HK := n4_; have HB := n5_; clear n0_ n1_ n2_ n3_ n4_ n5_)); have hnb35 := NB386_383.out; have hnc35 := NB383_386.out; obtain ⟨hcz36_0, hcz36_1, hcz36_2, hcz36_3, hcz36_4, hcz36_5, hfz36_0, hfz36_1, hfz36_2, hfz36_3, hfz36_4, hfz36_5⟩ := cl6 BK386.out) | ((with_reducible refine gX_ 48 50 rfl rfl ?_); refine goesY_ (some 50) Try.func48 #[.slice Ao34 t391.length co34, .int .i64 64] ?_; (with_reducible refine (vernierref04_Shr.calls kj21 _ _ t391 64 t395 _ ?side1 ?side2 A31.out).mono ?_); (case side1 => refine (Kd.R_reads' (e := 3) (base := w0.heap.size) (ok := fun k_ => ((P1_ k_ ∨ w.heap.size ≤ k_) ∧ some k_ ≠ (.slice Ao23 x1_10.length co23 : Value).ownBlock)) (n := t391.length) (c := co34) ?_).2.2; exact (by (with_reducible repeat (first | apply Kd.R_alloc | apply Kd.R_drewN | apply Kd.R_drew)); exact (Kd.R_mono (Kd.R_far (p := ⟨gb386, 4, none⟩) (Kd.R_types HO393.out BK386.out (by decide)) (fun _ hk => hk.2) (.int .u64 t394)) (fun _ h_ => h_.1)))); (case side2 => exact (Kd.R_reads' HO393.out).2.1); rintro e w37 ⟨v396, rfl, ho0, hb⟩; refine ⟨_, rfl, ?_⟩; have HO397 := Aside0.mk (Kd.R_lower (Kd.R_new' (Kd.R_new' (Kd.R_newM (M := fun k_ => (P1_ k_ ∨ w.heap.size ≤ k_)) ho0 (show Kept w _ (fun k_ => P1_ k_) from by repeat (first | (with_reducible first | exact HK.out | apply Kept.alloc | apply Kept.drewN | apply Kept.drew | refine Kept.setCell ?_ (.inr GW383.out) _ | refine Kept.setCell ?_ (.inr GW386.out) _) | exact HK.out)).1 (fun k_ h_ => .inr h_)) (Kd.R_lt (by (with_reducible repeat (first | apply Kd.R_alloc | apply Kd.R_drewN | apply Kd.R_drew)); exact (Kd.R_mono (Kd.R_far (p := ⟨gb386, 4, none⟩) (Kd.R_types HO_1.out BK386.out (by decide)) (fun _ hk => hk.2) (.int .u64 t394)) (fun _ h_ => h_.1))))) (Kd.R_lt (by (with_reducible repeat (first | apply Kd.R_alloc | apply Kd.R_drewN | apply Kd.R_drew)); exact (Kd.R_mono (Kd.R_far (p := ⟨gb386, 4, none⟩) (Kd.R_types HO393.out BK386.out (by decide)) (fun _ hk => hk.2) (.int .u64 t394)) (fun _ h_ => h_.1))))) (bZ (bR3 HB.out))); replace HO_1 := Aside0.mk (Kd.R_elder' (by (with_reducible repeat (first | apply Kd.R_alloc | apply Kd.R_drewN | apply Kd.R_drew)); exact (Kd.R_mono (Kd.R_far (p := ⟨gb386, 4, none⟩) (Kd.R_types HO_1.out BK386.out (by decide)) (fun _ hk => hk.2) (.int .u64 t394)) (fun _ h_ => h_.1))) (Kd.R_base ho0) hb); replace HO393 := Aside0.mk (Kd.R_elder' (by (with_reducible repeat (first | apply Kd.R_alloc | apply Kd.R_drewN | apply Kd.R_drew)); exact (Kd.R_mono (Kd.R_far (p := ⟨gb386, 4, none⟩) (Kd.R_types HO393.out BK386.out (by decide)) (fun _ hk => hk.2) (.int .u64 t394)) (fun _ h_ => h_.1))) (Kd.R_base ho0) hb); replace BK383 := Aside0.mk (bB (g := gb383) (o := .cells #[.int .i64 0, .bool false, .int .i64 0, .int .u64 0, .int .u64 0, .bool false] 61 (0, 0)) (bQ3 BK383.out) hb); replace BK386 := Aside0.mk (bB (g := gb386) (o := .cells #[.int .i64 1, .bool a0, .int .i64 t385, .int .u64 0, .int .u64 t394, .bool x387005_21] 61 (0, 0)) (bQ3 BK386.out) hb); replace HK := Aside0.mk (Kept.below (S := (fun k_ => P1_ k_)) (by repeat (first | (with_reducible first | exact HK.out | apply Kept.alloc | apply Kept.drewN | apply Kept.drew | refine Kept.setCell ?_ (.inr GW383.out) _ | refine Kept.setCell ?_ (.inr GW386.out) _) | exact HK.out)) hb); replace HB := Aside0.mk (bS3 HB.out hb); (try clear hb); (try clear hk); (try clear ho0); obtain ⟨Ao38, co38, eo38⟩ := Kd.R_slice HO397.out; subst eo38) | ((with_reducible refine gX_ 54 51 rfl rfl ?_); refine goesY_ (some 51) Try.func54 #[.slice Ao38 t395.length co38] ?_; (with_reducible refine (vernierref04_Word.calls kj21 _ _ t395 t398 _ ?side1 ?side2 A32.out).mono ?_); (case side1 => repeat (first | exact (Kd.R_reads' HO397.out).2.2 | (with_reducible refine Kd.C_alloc ?_ _) | (with_reducible refine Kd.C_drewN ?_ _) | (with_reducible refine Kd.C_drew ?_))); (case side2 => exact (Kd.R_reads' HO397.out).2.1); rintro e w' ⟨rfl, ⟨nd, rfl⟩⟩; refine ⟨_, rfl, ?_⟩; (try (rw [drewN_self w37]; generalize hq_ : World.drewN w37 _ = w37; have n0_ : Aside0 (Kd.R (Kd.int .i64) 3 w37 w0.heap.size (fun k_ => (P1_ k_ ∨ w.heap.size ≤ k_) ∧ some k_ ≠ (.slice Ao38 t395.length co38 : Value).ownBlock ∧ some k_ ≠ (.slice Ao23 x1_10.length co23 : Value).ownBlock) (.slice Ao34 t391.length co34) t391) := ⟨by rw [← hq_]; exact (by (with_reducible repeat (first | apply Kd.R_alloc | apply Kd.R_drewN | apply Kd.R_drew)); exact Kd.R_mono HO393.out (fun _ hk => ⟨hk.1.1.1, ⟨hk.2, hk.1.2⟩⟩))⟩; have n1_ : Aside0 (Kd.R (Kd.int .i64) 3 w37 w0.heap.size (fun k_ => (P1_ k_ ∨ w.heap.size ≤ k_) ∧ some k_ ≠ (.slice Ao34 t391.length co34 : Value).ownBlock ∧ some k_ ≠ (.slice Ao23 x1_10.length co23 : Value).ownBlock) (.slice Ao38 t395.length co38) t395) := ⟨by rw [← hq_]; exact (by (with_reducible repeat (first | apply Kd.R_alloc | apply Kd.R_drewN | apply Kd.R_drew)); exact Kd.R_mono HO397.out (fun _ hk => ⟨hk.1.1.1, ⟨hk.2, hk.1.2⟩⟩))⟩; have n2_ : Aside0 (Kd.R (Kd.int .i64) 3 w37 w0.heap.size (fun k_ => (P1_ k_ ∨ w.heap.size ≤ k_) ∧ some k_ ≠ (.slice Ao34 t391.length co34 : Value).ownBlock ∧ some k_ ≠ (.slice Ao38 t395.length co38 : Value).ownBlock) (.slice Ao23 x1_10.length co23) x1_10) := ⟨by rw [← hq_]; exact (by (with_reducible repeat (first | apply Kd.R_alloc | apply Kd.R_drewN | apply Kd.R_drew)); exact Kd.R_mono HO_1.out (fun _ hk => ⟨hk.1.1, ⟨hk.1.2, hk.2⟩⟩))⟩; have n3_ : Aside0 (w37.heap[gb383]? = some (.cells #[.int .i64 0, .bool false, .int .i64 0, .int .u64 0, .int .u64 0, .bool false] 61 (0, 0))) := ⟨by rw [← hq_]; exact (bK3 BK383.out)⟩; have n4_ : Aside0 (w37.heap[gb386]? = some (.cells #[.int .i64 1, .bool a0, .int .i64 t385, .int .u64 0, .int .u64 t394, .bool x387005_21] 61 (0, 0))) := ⟨by rw [← hq_]; exact (bK3 BK386.out)⟩; have n5_ : Aside0 (Kept w w37 (fun k_ => P1_ k_)) := ⟨by rw [← hq_]; exact (by repeat (first | (with_reducible first | exact HK.out | apply Kept.alloc | apply Kept.drewN | apply Kept.drew | refine Kept.setCell ?_ (.inr GW383.out) _ | refine Kept.setCell ?_ (.inr GW386.out) _) | exact HK.out))⟩; have n6_ : Aside0 (Below w0.heap.size w0 w37) := ⟨by rw [← hq_]; exact (bR3 HB.out)⟩; clear HO393 HO397 HO_1 BK383 BK386 HK HB hq_; have HO393 := n0_; have HO397 := n1_; have HO_1 := n2_; have BK383 := n3_; have BK386 := n4_; have HK := n5_; have HB := n6_; clear n0_ n1_ n2_ n3_ n4_ n5_ n6_)); obtain ⟨hcz39_0, hcz39_1, hcz39_2, hcz39_3, hcz39_4, hcz39_5, hfz39_0, hfz39_1, hfz39_2, hfz39_3, hfz39_4, hfz39_5⟩ := cl6 BK386.out; obtain ⟨hcz40_0, hcz40_1, hcz40_2, hcz40_3, hcz40_4, hcz40_5, hfz40_0, hfz40_1, hfz40_2, hfz40_3, hfz40_4, hfz40_5⟩ := cl6 BK383.out))
       refine bodyPost_ret (results_cell_row rfl _ _ gb383 61 #[.int .i64 1, .bool a0, .int .i64 t385, .int .u64 t398, .int .u64 t394, .bool x387005_21] (0, 0) _ rfl (bQ3 BK383.out) Try.underlying61 rfl (by kernel_rfl)) rfl ?_
       exact ⟨eR3, bR3 HB.out, by repeat (first | (with_reducible first | exact HK.out | apply Kept.alloc | apply Kept.drewN | apply Kept.drew | refine Kept.setCell ?_ (.inr GW383.out) _ | refine Kept.setCell ?_ (.inr GW386.out) _) | exact HK.out)⟩
    ·
     rw [if_neg c20] at H
     have c20b0 : decide (128 < t384) = false := decide_eq_false c20
     clear c20
     replace H := Option.bind_eq_some_iff.mp H
     obtain ⟨t399, A410, H⟩ := H
     try dsimp -simprocs only at H
     have A41 := Aside0.mk A410
     clear A410
     replace H := Option.bind_eq_some_iff.mp H
     obtain ⟨t400, A420, H⟩ := H
     try dsimp -simprocs only at H
     have A42 := Aside0.mk A420
     clear A420
     replace H := Option.bind_eq_some_iff.mp H
     obtain ⟨t403, A430, H⟩ := H
     try dsimp -simprocs only at H
     have A43 := Aside0.mk A430
     clear A430
     simp only [Option.some.injEq, Prod.mk.injEq] at H
     obtain ⟨rfl, rfl, rfl, rfl, rfl, rfl⟩ := H
     obtain ⟨Ao44, co44, eo44⟩ := Kd.R_slice HO_1.out
     subst eo44
     go_wp2_with (first | ((with_reducible refine gX_ 54 47 rfl rfl ?_); refine goesY_ (some 47) Try.func54 #[.slice Ao44 x1_10.length co44] ?_; (with_reducible refine (vernierref04_Word.calls kj10 _ _ x1_10 t399 _ ?side1 ?side2 A41.out).mono ?_); (case side1 => repeat (first | exact (Kd.R_reads' HO_1.out).2.2 | (with_reducible refine Kd.C_alloc ?_ _) | (with_reducible refine Kd.C_drewN ?_ _) | (with_reducible refine Kd.C_drew ?_))); (case side2 => exact (Kd.R_reads' HO_1.out).2.1); rintro e w' ⟨rfl, ⟨nd, rfl⟩⟩; refine ⟨_, rfl, ?_⟩; (try (rw [drewN_self wc]; generalize hq_ : World.drewN wc _ = wc; have n0_ : Aside0 (Kd.R (Kd.int .i64) 3 wc w0.heap.size (fun k_ => (P1_ k_ ∨ w.heap.size ≤ k_)) (.slice Ao44 x1_10.length co44) x1_10) := ⟨by rw [← hq_]; exact (by (with_reducible repeat (first | apply Kd.R_alloc | apply Kd.R_drewN | apply Kd.R_drew)); exact HO_1.out)⟩; have n1_ : Aside0 (wc.heap[gb383]? = some (.cells #[.int .i64 0, .bool false, .int .i64 0, .int .u64 0, .int .u64 0, .bool false] 61 (0, 0))) := ⟨by rw [← hq_]; exact (bK3 BK383.out)⟩; have n2_ : Aside0 (wc.heap[gb386]? = some (.cells #[.int .i64 1, .bool a0, .int .i64 t385, .int .u64 0, .int .u64 0, .bool a3] 61 (0, 0))) := ⟨by rw [← hq_]; exact (bK3 BK386.out)⟩; have n3_ : Aside0 (Kept w wc (fun k_ => P1_ k_)) := ⟨by rw [← hq_]; exact (by repeat (first | (with_reducible first | exact HK.out | apply Kept.alloc | apply Kept.drewN | apply Kept.drew | refine Kept.setCell ?_ (.inr GW383.out) _ | refine Kept.setCell ?_ (.inr GW386.out) _) | exact HK.out))⟩; have n4_ : Aside0 (Below w0.heap.size w0 wc) := ⟨by rw [← hq_]; exact (bR3 HB.out)⟩; clear HO_1 BK383 BK386 HK HB hq_; have HO_1 := n0_; have BK383 := n1_; have BK386 := n2_; have HK := n3_; have HB := n4_; clear n0_ n1_ n2_ n3_ n4_)); have hnb45 := NB386_383.out; have hnc45 := NB383_386.out; obtain ⟨hcz46_0, hcz46_1, hcz46_2, hcz46_3, hcz46_4, hcz46_5, hfz46_0, hfz46_1, hfz46_2, hfz46_3, hfz46_4, hfz46_5⟩ := cl6 BK386.out) | ((with_reducible refine gX_ 48 50 rfl rfl ?_); refine goesY_ (some 50) Try.func48 #[.slice Ao44 x1_10.length co44, .int .i64 64] ?_; (with_reducible refine (vernierref04_Shr.calls kj10 _ _ x1_10 64 t400 _ ?side1 ?side2 A42.out).mono ?_); (case side1 => refine (Kd.R_reads' (e := 3) (base := w0.heap.size) (ok := fun k_ => (P1_ k_ ∨ w.heap.size ≤ k_)) (n := x1_10.length) (c := co44) ?_).2.2; exact (by (with_reducible repeat (first | apply Kd.R_alloc | apply Kd.R_drewN | apply Kd.R_drew)); exact (Kd.R_mono (Kd.R_far (p := ⟨gb386, 4, none⟩) (Kd.R_types HO_1.out BK386.out (by decide)) (fun _ hk => hk.2) (.int .u64 t399)) (fun _ h_ => h_.1)))); (case side2 => exact (Kd.R_reads' HO_1.out).2.1); rintro e w47 ⟨v401, rfl, ho0, hb⟩; refine ⟨_, rfl, ?_⟩; have HO402 := Aside0.mk (Kd.R_lower (Kd.R_new' (Kd.R_newM (M := fun k_ => (P1_ k_ ∨ w.heap.size ≤ k_)) ho0 (show Kept w _ (fun k_ => P1_ k_) from by repeat (first | (with_reducible first | exact HK.out | apply Kept.alloc | apply Kept.drewN | apply Kept.drew | refine Kept.setCell ?_ (.inr GW383.out) _ | refine Kept.setCell ?_ (.inr GW386.out) _) | exact HK.out)).1 (fun k_ h_ => .inr h_)) (Kd.R_lt (by (with_reducible repeat (first | apply Kd.R_alloc | apply Kd.R_drewN | apply Kd.R_drew)); exact (Kd.R_mono (Kd.R_far (p := ⟨gb386, 4, none⟩) (Kd.R_types HO_1.out BK386.out (by decide)) (fun _ hk => hk.2) (.int .u64 t399)) (fun _ h_ => h_.1))))) (bZ (bR3 HB.out))); replace HO_1 := Aside0.mk (Kd.R_elder' (by (with_reducible repeat (first | apply Kd.R_alloc | apply Kd.R_drewN | apply Kd.R_drew)); exact (Kd.R_mono (Kd.R_far (p := ⟨gb386, 4, none⟩) (Kd.R_types HO_1.out BK386.out (by decide)) (fun _ hk => hk.2) (.int .u64 t399)) (fun _ h_ => h_.1))) (Kd.R_base ho0) hb); replace BK383 := Aside0.mk (bB (g := gb383) (o := .cells #[.int .i64 0, .bool false, .int .i64 0, .int .u64 0, .int .u64 0, .bool false] 61 (0, 0)) (bQ3 BK383.out) hb); replace BK386 := Aside0.mk (bB (g := gb386) (o := .cells #[.int .i64 1, .bool a0, .int .i64 t385, .int .u64 0, .int .u64 t399, .bool a3] 61 (0, 0)) (bQ3 BK386.out) hb); replace HK := Aside0.mk (Kept.below (S := (fun k_ => P1_ k_)) (by repeat (first | (with_reducible first | exact HK.out | apply Kept.alloc | apply Kept.drewN | apply Kept.drew | refine Kept.setCell ?_ (.inr GW383.out) _ | refine Kept.setCell ?_ (.inr GW386.out) _) | exact HK.out)) hb); replace HB := Aside0.mk (bS3 HB.out hb); (try clear hb); (try clear hk); (try clear ho0); obtain ⟨Ao48, co48, eo48⟩ := Kd.R_slice HO402.out; subst eo48) | ((with_reducible refine gX_ 54 51 rfl rfl ?_); refine goesY_ (some 51) Try.func54 #[.slice Ao48 t400.length co48] ?_; (with_reducible refine (vernierref04_Word.calls kj10 _ _ t400 t403 _ ?side1 ?side2 A43.out).mono ?_); (case side1 => repeat (first | exact (Kd.R_reads' HO402.out).2.2 | (with_reducible refine Kd.C_alloc ?_ _) | (with_reducible refine Kd.C_drewN ?_ _) | (with_reducible refine Kd.C_drew ?_))); (case side2 => exact (Kd.R_reads' HO402.out).2.1); rintro e w' ⟨rfl, ⟨nd, rfl⟩⟩; refine ⟨_, rfl, ?_⟩; (try (rw [drewN_self w47]; generalize hq_ : World.drewN w47 _ = w47; have n0_ : Aside0 (Kd.R (Kd.int .i64) 3 w47 w0.heap.size (fun k_ => (P1_ k_ ∨ w.heap.size ≤ k_) ∧ some k_ ≠ (.slice Ao44 x1_10.length co44 : Value).ownBlock) (.slice Ao48 t400.length co48) t400) := ⟨by rw [← hq_]; exact (by (with_reducible repeat (first | apply Kd.R_alloc | apply Kd.R_drewN | apply Kd.R_drew)); exact Kd.R_mono HO402.out (fun _ hk => ⟨hk.1.1, hk.2⟩))⟩; have n1_ : Aside0 (Kd.R (Kd.int .i64) 3 w47 w0.heap.size (fun k_ => (P1_ k_ ∨ w.heap.size ≤ k_) ∧ some k_ ≠ (.slice Ao48 t400.length co48 : Value).ownBlock) (.slice Ao44 x1_10.length co44) x1_10) := ⟨by rw [← hq_]; exact (by (with_reducible repeat (first | apply Kd.R_alloc | apply Kd.R_drewN | apply Kd.R_drew)); exact HO_1.out)⟩; have n2_ : Aside0 (w47.heap[gb383]? = some (.cells #[.int .i64 0, .bool false, .int .i64 0, .int .u64 0, .int .u64 0, .bool false] 61 (0, 0))) := ⟨by rw [← hq_]; exact (bK3 BK383.out)⟩; have n3_ : Aside0 (w47.heap[gb386]? = some (.cells #[.int .i64 1, .bool a0, .int .i64 t385, .int .u64 0, .int .u64 t399, .bool a3] 61 (0, 0))) := ⟨by rw [← hq_]; exact (bK3 BK386.out)⟩; have n4_ : Aside0 (Kept w w47 (fun k_ => P1_ k_)) := ⟨by rw [← hq_]; exact (by repeat (first | (with_reducible first | exact HK.out | apply Kept.alloc | apply Kept.drewN | apply Kept.drew | refine Kept.setCell ?_ (.inr GW383.out) _ | refine Kept.setCell ?_ (.inr GW386.out) _) | exact HK.out))⟩; have n5_ : Aside0 (Below w0.heap.size w0 w47) := ⟨by rw [← hq_]; exact (bR3 HB.out)⟩; clear HO402 HO_1 BK383 BK386 HK HB hq_; have HO402 := n0_; have HO_1 := n1_; have BK383 := n2_; have BK386 := n3_; have HK := n4_; have HB := n5_; clear n0_ n1_ n2_ n3_ n4_ n5_)); obtain ⟨hcz49_0, hcz49_1, hcz49_2, hcz49_3, hcz49_4, hcz49_5, hfz49_0, hfz49_1, hfz49_2, hfz49_3, hfz49_4, hfz49_5⟩ := cl6 BK386.out; obtain ⟨hcz50_0, hcz50_1, hcz50_2, hcz50_3, hcz50_4, hcz50_5, hfz50_0, hfz50_1, hfz50_2, hfz50_3, hfz50_4, hfz50_5⟩ := cl6 BK383.out))
     refine bodyPost_ret (results_cell_row rfl _ _ gb383 61 #[.int .i64 1, .bool a0, .int .i64 t385, .int .u64 t403, .int .u64 t399, .bool a3] (0, 0) _ rfl (bQ3 BK383.out) Try.underlying61 rfl (by kernel_rfl)) rfl ?_
     exact ⟨eR3, bR3 HB.out, by repeat (first | (with_reducible first | exact HK.out | apply Kept.alloc | apply Kept.drewN | apply Kept.drew | refine Kept.setCell ?_ (.inr GW383.out) _ | refine Kept.setCell ?_ (.inr GW386.out) _) | exact HK.out)⟩
def vernierref07_Sound.f (a0_0 : Int) (a0_1 : Bool) (a0_2 : Int) (a0_3 : Int) (a0_4 : Int) (a0_5 : Bool) : Option (Bool) := if a0_0 = 0 then (some (!a0_1 && (a0_2 == 0 && (a0_3 == 0 && (a0_4 == 0 && (!a0_5)))))) else (if a0_0 = 2 then (some (!a0_1 && (a0_2 == 0 && (a0_3 == 0 && (a0_4 == 0 && (!a0_5)))))) else (if a0_0 = 1 then (if a0_3 ≥ 9223372036854775808 then (if a0_2 ≥ (-1099511627776) then (some (decide (a0_2 ≤ 1099511627776))) else (some false)) else (some false)) else (some false)))
set_option maxHeartbeats 8000000 in
set_option maxRecDepth 100000 in
theorem vernierref07_Sound.calls (a0_0 : Int) (a0_1 : Bool) (a0_2 : Int) (a0_3 : Int) (a0_4 : Int) (a0_5 : Bool) (r : Bool) (w : World) (h : vernierref07_Sound.f a0_0 a0_1 a0_2 a0_3 a0_4 a0_5 = some r) :
  Calls Try.prog 102 #[.agg #[.int .i64 a0_0, .bool a0_1, .int .i64 a0_2, .int .u64 a0_3, .int .u64 a0_4, .bool a0_5]] w fun e w' => e = .returned (.bool r) ∧ Below w.heap.size w w' := by
 have hu61 := Try.underlying61
 have HB := Aside0.mk (Below.refl w.heap.size w)
 have H : (if a0_0 = 0 then (some (!a0_1 && (a0_2 == 0 && (a0_3 == 0 && (a0_4 == 0 && (!a0_5)))))) else (if a0_0 = 2 then (some (!a0_1 && (a0_2 == 0 && (a0_3 == 0 && (a0_4 == 0 && (!a0_5)))))) else (if a0_0 = 1 then (if a0_3 ≥ 9223372036854775808 then (if a0_2 ≥ (-1099511627776) then (some (decide (a0_2 ≤ 1099511627776))) else (some false)) else (some false)) else (some false)))) = some r := h
 clear h
 by_cases c2 : a0_0 = 0
 ·
  rw [if_pos c2] at H
  have c2b0 : (a0_0 == 0) = true := beq_iff_eq.mpr c2
  have c2b1 : (a0_0 != 0) = false := bne_eq_false_iff_eq.mpr c2
  clear c2
  obtain rfl := Option.some.inj H
  go_enter Try.func102, Try.ntmps102
  go_wp2_with (first | ((with_reducible refine gD (N := 1) rfl ?_); refine bE3 1 #[.int .i64 a0_0, .bool a0_1, .int .i64 a0_2, .int .u64 a0_3, .int .u64 a0_4, .bool a0_5] 61 ?hr ?_; (case hr => first | (go_simp; done) | (go_simp; rfl)); intro gb410 hg w3 hbox hb; have BK410 := Aside0.mk (hbox); have GW410 := Aside0.mk ((bZ3 hg HB.out)); have GE410 := Aside0.mk ((bZ3 hg HB.out)); replace HB := Aside0.mk (bS3 HB.out hb); clear hb hbox hg; obtain ⟨hcz4_0, hcz4_1, hcz4_2, hcz4_3, hcz4_4, hcz4_5, hfz4_0, hfz4_1, hfz4_2, hfz4_3, hfz4_4, hfz4_5⟩ := cl6 BK410.out))
  go_ret
  exact ⟨eR3, bR3 HB.out⟩
 ·
  rw [if_neg c2] at H
  have c2b0 : (a0_0 == 0) = false := beq_eq_false_iff_ne.mpr c2
  have c2b1 : (a0_0 != 0) = true := bne_iff_ne.mpr c2
  by_cases c5 : a0_0 = 2
  ·
   rw [if_pos c5] at H
   have c5b0 : (a0_0 == 2) = true := beq_iff_eq.mpr c5
   have c5b1 : (a0_0 != 2) = false := bne_eq_false_iff_eq.mpr c5
   clear c5
   obtain rfl := Option.some.inj H
   go_enter Try.func102, Try.ntmps102
   go_wp2_with (first | ((with_reducible refine gD (N := 1) rfl ?_); refine bE3 1 #[.int .i64 a0_0, .bool a0_1, .int .i64 a0_2, .int .u64 a0_3, .int .u64 a0_4, .bool a0_5] 61 ?hr ?_; (case hr => first | (go_simp; done) | (go_simp; rfl)); intro gb410 hg w6 hbox hb; have BK410 := Aside0.mk (hbox); have GW410 := Aside0.mk ((bZ3 hg HB.out)); have GE410 := Aside0.mk ((bZ3 hg HB.out)); replace HB := Aside0.mk (bS3 HB.out hb); clear hb hbox hg; obtain ⟨hcz7_0, hcz7_1, hcz7_2, hcz7_3, hcz7_4, hcz7_5, hfz7_0, hfz7_1, hfz7_2, hfz7_3, hfz7_4, hfz7_5⟩ := cl6 BK410.out))
   go_ret
   exact ⟨eR3, bR3 HB.out⟩
  ·
   rw [if_neg c5] at H
   have c5b0 : (a0_0 == 2) = false := beq_eq_false_iff_ne.mpr c5
   have c5b1 : (a0_0 != 2) = true := bne_iff_ne.mpr c5
   by_cases c8 : a0_0 = 1
   ·
    rw [if_pos c8] at H
    have c8b0 : (a0_0 == 1) = true := beq_iff_eq.mpr c8
    have c8b1 : (a0_0 != 1) = false := bne_eq_false_iff_eq.mpr c8
    clear c8
    by_cases c9 : a0_3 ≥ 9223372036854775808
    ·
     rw [if_pos c9] at H
     have c9b0 : decide (9223372036854775808 ≤ a0_3) = true := decide_eq_true c9
     clear c9
     by_cases c10 : a0_2 ≥ (-1099511627776)
     ·
      rw [if_pos c10] at H
      have c10b0 : decide ((-1099511627776) ≤ a0_2) = true := decide_eq_true c10
      clear c10
      obtain rfl := Option.some.inj H
      go_enter Try.func102, Try.ntmps102
      go_wp2_with (first | ((with_reducible refine gD (N := 1) rfl ?_); refine bE3 1 #[.int .i64 a0_0, .bool a0_1, .int .i64 a0_2, .int .u64 a0_3, .int .u64 a0_4, .bool a0_5] 61 ?hr ?_; (case hr => first | (go_simp; done) | (go_simp; rfl)); intro gb410 hg w11 hbox hb; have BK410 := Aside0.mk (hbox); have GW410 := Aside0.mk ((bZ3 hg HB.out)); have GE410 := Aside0.mk ((bZ3 hg HB.out)); replace HB := Aside0.mk (bS3 HB.out hb); clear hb hbox hg; obtain ⟨hcz12_0, hcz12_1, hcz12_2, hcz12_3, hcz12_4, hcz12_5, hfz12_0, hfz12_1, hfz12_2, hfz12_3, hfz12_4, hfz12_5⟩ := cl6 BK410.out))
      go_ret
      exact ⟨eR3, bR3 HB.out⟩
     ·
      rw [if_neg c10] at H
      have c10b0 : decide ((-1099511627776) ≤ a0_2) = false := decide_eq_false c10
      clear c10
      obtain rfl := Option.some.inj H
      go_enter Try.func102, Try.ntmps102
      go_wp2_with (first | ((with_reducible refine gD (N := 1) rfl ?_); refine bE3 1 #[.int .i64 a0_0, .bool a0_1, .int .i64 a0_2, .int .u64 a0_3, .int .u64 a0_4, .bool a0_5] 61 ?hr ?_; (case hr => first | (go_simp; done) | (go_simp; rfl)); intro gb410 hg w13 hbox hb; have BK410 := Aside0.mk (hbox); have GW410 := Aside0.mk ((bZ3 hg HB.out)); have GE410 := Aside0.mk ((bZ3 hg HB.out)); replace HB := Aside0.mk (bS3 HB.out hb); clear hb hbox hg; obtain ⟨hcz14_0, hcz14_1, hcz14_2, hcz14_3, hcz14_4, hcz14_5, hfz14_0, hfz14_1, hfz14_2, hfz14_3, hfz14_4, hfz14_5⟩ := cl6 BK410.out))
      go_ret
      exact ⟨eR3, bR3 HB.out⟩
    ·
     rw [if_neg c9] at H
     have c9b0 : decide (9223372036854775808 ≤ a0_3) = false := decide_eq_false c9
     clear c9
     obtain rfl := Option.some.inj H
     go_enter Try.func102, Try.ntmps102
     go_wp2_with (first | ((with_reducible refine gD (N := 1) rfl ?_); refine bE3 1 #[.int .i64 a0_0, .bool a0_1, .int .i64 a0_2, .int .u64 a0_3, .int .u64 a0_4, .bool a0_5] 61 ?hr ?_; (case hr => first | (go_simp; done) | (go_simp; rfl)); intro gb410 hg w15 hbox hb; have BK410 := Aside0.mk (hbox); have GW410 := Aside0.mk ((bZ3 hg HB.out)); have GE410 := Aside0.mk ((bZ3 hg HB.out)); replace HB := Aside0.mk (bS3 HB.out hb); clear hb hbox hg; obtain ⟨hcz16_0, hcz16_1, hcz16_2, hcz16_3, hcz16_4, hcz16_5, hfz16_0, hfz16_1, hfz16_2, hfz16_3, hfz16_4, hfz16_5⟩ := cl6 BK410.out))
     go_ret
     exact ⟨eR3, bR3 HB.out⟩
   ·
    rw [if_neg c8] at H
    have c8b0 : (a0_0 == 1) = false := beq_eq_false_iff_ne.mpr c8
    have c8b1 : (a0_0 != 1) = true := bne_iff_ne.mpr c8
    obtain rfl := Option.some.inj H
    go_enter Try.func102, Try.ntmps102
    go_wp2_with (first | ((with_reducible refine gD (N := 1) rfl ?_); refine bE3 1 #[.int .i64 a0_0, .bool a0_1, .int .i64 a0_2, .int .u64 a0_3, .int .u64 a0_4, .bool a0_5] 61 ?hr ?_; (case hr => first | (go_simp; done) | (go_simp; rfl)); intro gb410 hg w17 hbox hb; have BK410 := Aside0.mk (hbox); have GW410 := Aside0.mk ((bZ3 hg HB.out)); have GE410 := Aside0.mk ((bZ3 hg HB.out)); replace HB := Aside0.mk (bS3 HB.out hb); clear hb hbox hg; obtain ⟨hcz18_0, hcz18_1, hcz18_2, hcz18_3, hcz18_4, hcz18_5, hfz18_0, hfz18_1, hfz18_2, hfz18_3, hfz18_4, hfz18_5⟩ := cl6 BK410.out))
    go_ret
    exact ⟨eR3, bR3 HB.out⟩
def vernierref07_some.l0 : Nat → ByteArray → Int → Option (Bool)
 | 0, _, _ => none
 | k + 1, x0, x3 => if x3 < (x0.size : Int) then (if 0 ≤ x3 then (if (bt x0 x3) = 49 then (some true) else (vernierref07_some.l0 k x0 (wrap64 (x3 + 1)))) else (none)) else (some false)
def vernierref07_some.f (k : Nat) (a0 : ByteArray) : Option (Bool) := vernierref07_some.l0 k a0 0
set_option maxHeartbeats 8000000 in
set_option maxRecDepth 100000 in
theorem vernierref07_some.calls (k : Nat) (a0 : ByteArray) (r : Bool) (w : World) (h : vernierref07_some.f k a0 = some r) :
  Calls Try.prog 103 #[.string a0] w fun e w' => e = .returned (.bool r) ∧ Drawn0 w w' := by
 have H : (vernierref07_some.l0 k a0 0) = some r := h
 clear h
 have H' := Aside0.mk H
 clear H
 go_enter Try.func103, Try.ntmps103
 go_wp2
 go_loopg [3] k (fun kq v3 w' => ∃ (x3_1 : Int), v3 = .int .i64 x3_1 ∧ Aside0 (vernierref07_some.l0 kq a0 x3_1 = some r) ∧ Aside0 (kq ≤ k) ∧ Drawn0 w w')
 case atStart => exact ⟨(0), (by first | rfl | (simp; done) | (simp [*]; done)), H', ⟨Nat.le_refl _⟩, by repeat (first | exact Drawn0.refl _ | apply Drawn0.step)⟩
 case round =>
  clear H'
  try clear c1
  obtain ⟨x3_1, rfl, HA, HK1, ⟨m1, rfl⟩⟩ := hrel
  cases gk with
  | zero => exact absurd HA.out (by simp [vernierref07_some.l0])
  | succ k1 =>
   have H := HA.out
   clear HA
   simp only [vernierref07_some.l0] at H
   by_cases c2 : x3_1 < (a0.size : Int)
   ·
    rw [if_pos c2] at H
    have c2b0 : decide (x3_1 < (a0.size : Int)) = true := decide_eq_true c2
    clear c2
    by_cases c3 : 0 ≤ x3_1
    ·
     rw [if_pos c3] at H
     have c3b0 : decide (0 ≤ x3_1) = true := decide_eq_true c3
     clear c3
     by_cases c5 : (bt a0 x3_1) = 49
     ·
      rw [if_pos c5] at H
      have c5b0 : ((bt a0 x3_1) == 49) = true := beq_iff_eq.mpr c5
      have c5b1 : ((bt a0 x3_1) != 49) = false := bne_eq_false_iff_eq.mpr c5
      clear c5
      obtain rfl := Option.some.inj H
      have p4 : 0 ≤ (x3_1 : Int) := of_decide_eq_true (by first | (with_reducible assumption) | assumption)
      have q4 : x3_1 < (a0.size : Int) := of_decide_eq_true (by first | (with_reducible assumption) | assumption)
      have hx4 := bt_at a0 x3_1
      replace p4 := eq_true p4
      replace q4 := eq_true q4
      go_wp2
      go_ret
      exact ⟨by first | rfl | (simp; done) | (simp [*]; done), by repeat (first | exact Drawn0.refl _ | apply Drawn0.step)⟩
     ·
      rw [if_neg c5] at H
      have c5b0 : ((bt a0 x3_1) == 49) = false := beq_eq_false_iff_ne.mpr c5
      have c5b1 : ((bt a0 x3_1) != 49) = true := bne_iff_ne.mpr c5
      have H' := Aside0.mk H
      clear H
      have p4 : 0 ≤ (x3_1 : Int) := of_decide_eq_true (by first | (with_reducible assumption) | assumption)
      have q4 : x3_1 < (a0.size : Int) := of_decide_eq_true (by first | (with_reducible assumption) | assumption)
      have hx4 := bt_at a0 x3_1
      replace p4 := eq_true p4
      replace q4 := eq_true q4
      go_wp2
      go_roundg k1
      case measure => have := HK1.out; omega
      case rel => exact ⟨(wrap64 (x3_1 + 1)), (by first | rfl | (simp; done) | (simp [*]; done)), H', ⟨by have := HK1.out; omega⟩, by repeat (first | exact Drawn0.refl _ | apply Drawn0.step)⟩
    ·
     rw [if_neg c3] at H
     exact absurd H (by simp)
   ·
    rw [if_neg c2] at H
    have c2b0 : decide (x3_1 < (a0.size : Int)) = false := decide_eq_false c2
    clear c2
    obtain rfl := Option.some.inj H
    go_wp2
    go_ret
    exact ⟨by first | rfl | (simp; done) | (simp [*]; done), by repeat (first | exact Drawn0.refl _ | apply Drawn0.step)⟩
mutual
def vernierref07_left.j0 : Nat → ByteArray → Bool → Option (Int)
 | 0, _, _ => none
 | k + 1, x0, x1 => if 1 ≤ (x0.size : Int) then ((vernierref07_some.f k (x0.extract 1 x0.size)).bind fun t426 => (if 0 < (x0.size : Int) then (if (bt x0 0) = 49 then (if t426 = true then (vernierref07_left.j1 k x0 x1 t426 true) else (vernierref07_left.j1 k x0 x1 t426 x1)) else (vernierref07_left.j1 k x0 x1 t426 false)) else (none))) else (none)
def vernierref07_left.j1 : Nat → ByteArray → Bool → Bool → Bool → Option (Int)
 | 0, _, _, _, _ => none
 | k + 1, x0, x1, x5, x11 => if x11 = true then (some 3) else (if 0 < (x0.size : Int) then (if (bt x0 0) = 49 then (some 2) else (if x5 = true then (some 1) else (if x1 = true then (some 1) else (some 0)))) else (none))
end
def vernierref07_left.f (k : Nat) (a0 : ByteArray) (a1 : Bool) : Option (Int) := if a0.toList = ([] : List UInt8) then (vernierref07_left.j0 k (⟨#[48]⟩ : ByteArray) a1) else (vernierref07_left.j0 k a0 a1)
set_option maxHeartbeats 8000000 in
set_option maxRecDepth 100000 in
theorem vernierref07_left.calls (k : Nat) (a0 : ByteArray) (a1 : Bool) (r : Int) (w : World) (h : vernierref07_left.f k a0 a1 = some r) :
  Calls Try.prog 105 #[.string a0, .bool a1] w fun e w' => e = .returned (.int .i64 r) ∧ Drawn0 w w' := by
 have H : (if a0.toList = ([] : List UInt8) then (vernierref07_left.j0 k (⟨#[48]⟩ : ByteArray) a1) else (vernierref07_left.j0 k a0 a1)) = some r := h
 clear h
 have HC3 := Aside0.mk H
 clear H
 go_enter Try.func105, Try.ntmps105
 go_upto_if 7 with (fail)
 go_cut [0] (fun v0 wc => ∃ (kq : Nat) (x0_2 : ByteArray), v0 = .string x0_2 ∧ Aside0 (vernierref07_left.j0 kq x0_2 a1 = some r) ∧ Aside0 (kq ≤ k) ∧ Drawn0 w wc)
 case first =>
  have H := HC3.out
  clear HC3
  by_cases c4 : a0.toList = ([] : List UInt8)
  ·
   rw [if_pos c4] at H
   have c4b0 : (a0.toList == ([] : List UInt8)) = true := beq_iff_eq.mpr c4
   have c4b7 : (a0.toList).isEmpty = true := by rw [List.isEmpty_iff]; exact beq_iff_eq.mp c4b0
   have c4b1 : (a0.toList != ([] : List UInt8)) = false := bne_eq_false_iff_eq.mpr c4
   clear c4
   (first | rw [c4b0] | rw [c4b7] | (simp only [i64_w, i32_w]; rw [c4b0]) | skip)
   have H' := Aside0.mk H
   clear H
   go_wp2
   go_meet
   case rel => exact ⟨_, ((⟨#[48]⟩ : ByteArray)), (by first | rfl | (simp; done) | (simp [*]; done)), H', ⟨by first | omega | exact Nat.le_refl _⟩, by repeat (first | exact Drawn0.refl _ | apply Drawn0.step)⟩
  ·
   rw [if_neg c4] at H
   have c4b0 : (a0.toList == ([] : List UInt8)) = false := beq_eq_false_iff_ne.mpr c4
   have c4b7 : (a0.toList).isEmpty = false := by rw [List.isEmpty_eq_false_iff]; exact beq_eq_false_iff_ne.mp c4b0
   have c4b1 : (a0.toList != ([] : List UInt8)) = true := bne_iff_ne.mpr c4
   (first | rw [c4b0] | rw [c4b7] | (simp only [i64_w, i32_w]; rw [c4b0]) | skip)
   have H' := Aside0.mk H
   clear H
   go_wp2
   go_meet
   case rel => exact ⟨_, (a0), (by first | rfl | (simp; done) | (simp [*]; done)), H', ⟨by first | omega | exact Nat.le_refl _⟩, by repeat (first | exact Drawn0.refl _ | apply Drawn0.step)⟩
 case rest =>
  clear HC3
  try clear c1
  try clear p2
  try clear c4
  try clear c4b0
  try clear c4b1
  obtain ⟨kq, x0_2, rfl, HA, HJ2, ⟨mc2, rfl⟩⟩ := hcut
  cases kq with
  | zero => exact absurd HA.out (by simp [vernierref07_left.j0])
  | succ kj2 =>
   have H := HA.out
   clear HA
   simp only [vernierref07_left.j0] at H
   by_cases c5 : 1 ≤ (x0_2.size : Int)
   ·
    rw [if_pos c5] at H
    have c5b0 := eq_true c5
    have c5b1 : decide (1 ≤ (x0_2.size : Int)) = true := decide_eq_true c5
    clear c5
    replace H := Option.bind_eq_some_iff.mp H
    obtain ⟨t426, A60, H⟩ := H
    try dsimp -simprocs only at H
    have A6 := Aside0.mk A60
    clear A60
    have HC7 := Aside0.mk H
    clear H
    go_upto_region 4 with (first | ((with_reducible refine gX_ 103 10 rfl rfl ?_); refine goesY_ (some 10) Try.func103 #[.string (x0_2.extract 1 x0_2.size)] ?_; (with_reducible refine (vernierref07_some.calls kj2 (x0_2.extract 1 x0_2.size) t426 _ A6.out).mono ?_); rintro e w' ⟨rfl, ⟨nd, rfl⟩⟩; refine ⟨_, rfl, ?_⟩))
    (try simp only [Act.put, lS_, lZ_, lC_])
    go_cut [11] (fun v11 wc => ∃ (kq : Nat) (x11_6 : Bool), v11 = .bool x11_6 ∧ Aside0 (vernierref07_left.j1 kq x0_2 a1 t426 x11_6 = some r) ∧ Aside0 (kq ≤ kj2) ∧ Drawn0 w wc)
    case first =>
     have H := HC7.out
     clear HC7
     by_cases c8 : 0 < (x0_2.size : Int)
     ·
      rw [if_pos c8] at H
      have c8b0 : decide (0 < (x0_2.size : Int)) = true := decide_eq_true c8
      have c8b1 : decide (0 < x0_2.size) = true := decide_eq_true (by omega)
      clear c8
      (first | rw [c8b0] | (simp only [i64_w, i32_w]; rw [c8b0]) | skip)
      by_cases c10 : (bt x0_2 0) = 49
      ·
       rw [if_pos c10] at H
       have c10b0 : ((bt x0_2 0) == 49) = true := beq_iff_eq.mpr c10
       have c10b1 : ((bt x0_2 0) != 49) = false := bne_eq_false_iff_eq.mpr c10
       clear c10
       by_cases c11 : t426 = true
       ·
        subst c11
        rw [if_pos rfl] at H
        have H' := Aside0.mk H
        clear H
        have p9 : 0 ≤ (0 : Int) := (by omega)
        have q9 : 0 < x0_2.size := (by have : (0 : Int) < (x0_2.size : Int) := of_decide_eq_true (by first | (with_reducible assumption) | assumption); omega)
        have hx9 : ∀ h : 0 < x0_2.size, ((x0_2[0]'h).toNat : Int) = bt x0_2 0 := bt_at x0_2 0
        clear p9
        have qi9 : (0 < (x0_2.size : Int)) = True := eq_true (of_decide_eq_true (by first | (with_reducible assumption) | assumption))
        replace q9 := eq_true q9
        go_wp2
        go_meet
        case rel => exact ⟨_, (true), (by first | rfl | (simp; done) | (simp [*]; done)), H', ⟨by have := HJ2.out; first | omega | exact Nat.le_refl _⟩, by repeat (first | exact Drawn0.refl _ | apply Drawn0.step)⟩
       ·
        replace c11 := Bool.eq_false_iff.mpr c11
        subst c11
        rw [if_neg (show ¬ (false = true) by decide)] at H
        have H' := Aside0.mk H
        clear H
        have p9 : 0 ≤ (0 : Int) := (by omega)
        have q9 : 0 < x0_2.size := (by have : (0 : Int) < (x0_2.size : Int) := of_decide_eq_true (by first | (with_reducible assumption) | assumption); omega)
        have hx9 : ∀ h : 0 < x0_2.size, ((x0_2[0]'h).toNat : Int) = bt x0_2 0 := bt_at x0_2 0
        clear p9
        have qi9 : (0 < (x0_2.size : Int)) = True := eq_true (of_decide_eq_true (by first | (with_reducible assumption) | assumption))
        replace q9 := eq_true q9
        go_wp2
        go_meet
        case rel => exact ⟨_, (a1), (by first | rfl | (simp; done) | (simp [*]; done)), H', ⟨by have := HJ2.out; first | omega | exact Nat.le_refl _⟩, by repeat (first | exact Drawn0.refl _ | apply Drawn0.step)⟩
      ·
       rw [if_neg c10] at H
       have c10b0 : ((bt x0_2 0) == 49) = false := beq_eq_false_iff_ne.mpr c10
       have c10b1 : ((bt x0_2 0) != 49) = true := bne_iff_ne.mpr c10
       have H' := Aside0.mk H
       clear H
       have p9 : 0 ≤ (0 : Int) := (by omega)
       have q9 : 0 < x0_2.size := (by have : (0 : Int) < (x0_2.size : Int) := of_decide_eq_true (by first | (with_reducible assumption) | assumption); omega)
       have hx9 : ∀ h : 0 < x0_2.size, ((x0_2[0]'h).toNat : Int) = bt x0_2 0 := bt_at x0_2 0
       clear p9
       have qi9 : (0 < (x0_2.size : Int)) = True := eq_true (of_decide_eq_true (by first | (with_reducible assumption) | assumption))
       replace q9 := eq_true q9
       go_wp2
       go_meet
       case rel => exact ⟨_, (false), (by first | rfl | (simp; done) | (simp [*]; done)), H', ⟨by have := HJ2.out; first | omega | exact Nat.le_refl _⟩, by repeat (first | exact Drawn0.refl _ | apply Drawn0.step)⟩
     ·
      rw [if_neg c8] at H
      exact absurd H (by simp)
    case rest =>
     clear HC7
     try clear c1
     try clear c2
     try clear p2
     try clear c4
     try clear c4b0
     try clear c4b1
     try clear c5
     try clear c5b0
     try clear c5b1
     try clear c8
     try clear c8b0
     try clear c8b1
     try clear p9
     try clear q9
     try clear hx9
     try clear qi9
     try clear c10
     try clear c10b0
     try clear c10b1
     try clear c11
     try clear p2
     try clear p9
     try clear q9
     obtain ⟨kq, x11_6, rfl, HA, HJ6, ⟨mc6, rfl⟩⟩ := hcut
     cases kq with
     | zero => exact absurd HA.out (by simp [vernierref07_left.j1])
     | succ kj6 =>
      have H := HA.out
      clear HA
      simp only [vernierref07_left.j1] at H
      by_cases c12 : x11_6 = true
      ·
       subst c12
       rw [if_pos rfl] at H
       obtain rfl := Option.some.inj H
       go_wp2
       go_ret
       exact ⟨by first | rfl | (simp; done) | (simp [*]; done), by repeat (first | exact Drawn0.refl _ | apply Drawn0.step)⟩
      ·
       replace c12 := Bool.eq_false_iff.mpr c12
       subst c12
       rw [if_neg (show ¬ (false = true) by decide)] at H
       by_cases c13 : 0 < (x0_2.size : Int)
       ·
        rw [if_pos c13] at H
        have c13b0 : decide (0 < (x0_2.size : Int)) = true := decide_eq_true c13
        have c13b1 : decide (0 < x0_2.size) = true := decide_eq_true (by omega)
        clear c13
        by_cases c15 : (bt x0_2 0) = 49
        ·
         rw [if_pos c15] at H
         have c15b0 : ((bt x0_2 0) == 49) = true := beq_iff_eq.mpr c15
         have c15b1 : ((bt x0_2 0) != 49) = false := bne_eq_false_iff_eq.mpr c15
         clear c15
         obtain rfl := Option.some.inj H
         have p14 : 0 ≤ (0 : Int) := (by omega)
         have q14 : 0 < x0_2.size := (by have : (0 : Int) < (x0_2.size : Int) := of_decide_eq_true (by first | (with_reducible assumption) | assumption); omega)
         have hx14 : ∀ h : 0 < x0_2.size, ((x0_2[0]'h).toNat : Int) = bt x0_2 0 := bt_at x0_2 0
         clear p14
         have qi14 : (0 < (x0_2.size : Int)) = True := eq_true (of_decide_eq_true (by first | (with_reducible assumption) | assumption))
         replace q14 := eq_true q14
         go_wp2
         go_ret
         exact ⟨by first | rfl | (simp; done) | (simp [*]; done), by repeat (first | exact Drawn0.refl _ | apply Drawn0.step)⟩
        ·
         rw [if_neg c15] at H
         have c15b0 : ((bt x0_2 0) == 49) = false := beq_eq_false_iff_ne.mpr c15
         have c15b1 : ((bt x0_2 0) != 49) = true := bne_iff_ne.mpr c15
         by_cases c16 : t426 = true
         ·
          subst c16
          rw [if_pos rfl] at H
          obtain rfl := Option.some.inj H
          have p14 : 0 ≤ (0 : Int) := (by omega)
          have q14 : 0 < x0_2.size := (by have : (0 : Int) < (x0_2.size : Int) := of_decide_eq_true (by first | (with_reducible assumption) | assumption); omega)
          have hx14 : ∀ h : 0 < x0_2.size, ((x0_2[0]'h).toNat : Int) = bt x0_2 0 := bt_at x0_2 0
          clear p14
          have qi14 : (0 < (x0_2.size : Int)) = True := eq_true (of_decide_eq_true (by first | (with_reducible assumption) | assumption))
          replace q14 := eq_true q14
          go_wp2
          go_ret
          exact ⟨by first | rfl | (simp; done) | (simp [*]; done), by repeat (first | exact Drawn0.refl _ | apply Drawn0.step)⟩
         ·
          replace c16 := Bool.eq_false_iff.mpr c16
          subst c16
          rw [if_neg (show ¬ (false = true) by decide)] at H
          by_cases c17 : a1 = true
          ·
           subst c17
           rw [if_pos rfl] at H
           obtain rfl := Option.some.inj H
           have p14 : 0 ≤ (0 : Int) := (by omega)
           have q14 : 0 < x0_2.size := (by have : (0 : Int) < (x0_2.size : Int) := of_decide_eq_true (by first | (with_reducible assumption) | assumption); omega)
           have hx14 : ∀ h : 0 < x0_2.size, ((x0_2[0]'h).toNat : Int) = bt x0_2 0 := bt_at x0_2 0
           clear p14
           have qi14 : (0 < (x0_2.size : Int)) = True := eq_true (of_decide_eq_true (by first | (with_reducible assumption) | assumption))
           replace q14 := eq_true q14
           go_wp2
           go_ret
           exact ⟨by first | rfl | (simp; done) | (simp [*]; done), by repeat (first | exact Drawn0.refl _ | apply Drawn0.step)⟩
          ·
           replace c17 := Bool.eq_false_iff.mpr c17
           subst c17
           rw [if_neg (show ¬ (false = true) by decide)] at H
           obtain rfl := Option.some.inj H
           have p14 : 0 ≤ (0 : Int) := (by omega)
           have q14 : 0 < x0_2.size := (by have : (0 : Int) < (x0_2.size : Int) := of_decide_eq_true (by first | (with_reducible assumption) | assumption); omega)
           have hx14 : ∀ h : 0 < x0_2.size, ((x0_2[0]'h).toNat : Int) = bt x0_2 0 := bt_at x0_2 0
           clear p14
           have qi14 : (0 < (x0_2.size : Int)) = True := eq_true (of_decide_eq_true (by first | (with_reducible assumption) | assumption))
           replace q14 := eq_true q14
           go_wp2
           go_ret
           exact ⟨by first | rfl | (simp; done) | (simp [*]; done), by repeat (first | exact Drawn0.refl _ | apply Drawn0.step)⟩
       ·
        rw [if_neg c13] at H
        exact absurd H (by simp)
   ·
    rw [if_neg c5] at H
    exact absurd H (by simp)
mutual
def vernierref07_Cut.j0 : Nat → Int → ByteArray → Bool → Int → Bool → Int → Int → Int → Bool → Option (Int × Int × Int)
 | 0, _, _, _, _, _, _, _, _, _ => none
 | k + 1, x0, x10, x11, x428000, x428001, x428002, x428003, x428004, x428005 => if x428002 ≥ (wrap64 ((wrap64 (4 * x0)) - 8)) then ((vernierref05_Power.f k (wrap64 (x0 - 1))).bind fun t434 => (some (IntKind.u64.wrap (t434 - 1), 0, 0))) else (if x428002 < (wrap64 (-(wrap64 ((wrap64 (4 * x0)) - 8)))) then (vernierref07_Cut.j1 k x0 x10 true x428000 x428001 x428002 x428003 x428004 x428005) else (if x428002 = (wrap64 (-(wrap64 ((wrap64 (4 * x0)) - 8)))) then (vernierref07_Cut.j1 k x0 x10 x11 x428000 x428001 x428002 x428003 x428004 x428005) else (vernierref07_Cut.j1 k x0 x10 false x428000 x428001 x428002 x428003 x428004 x428005)))
def vernierref07_Cut.j1 : Nat → Int → ByteArray → Bool → Int → Bool → Int → Int → Int → Bool → Option (Int × Int × Int)
 | 0, _, _, _, _, _, _, _, _, _ => none
 | k + 1, x0, x10, x73, x428000, x428001, x428002, x428003, x428004, x428005 => if x73 = true then (some (1, 0, 0)) else ((vernierref06_Head.f k x428002).bind fun t435 => (if t435.size + x10.size ≤ 9223372036854775807 then (if 0 ≤ (wrap64 (x0 - 1)) then (if (wrap64 (x0 - 1)) ≤ ((t435 ++ x10).size : Int) then ((vernierref01_Number.f k ((t435 ++ x10).extract 0 ((wrap64 (x0 - 1)) : Int).toNat)).bind fun t436 => ((vernierref07_left.f k ((t435 ++ x10).extract ((wrap64 (x0 - 1)) : Int).toNat (t435 ++ x10).size) x428005).bind fun t437 => (some (t436, t437, 0)))) else (none)) else (none)) else (none)))
end
def vernierref07_Cut.f (k : Nat) (a0 : Int) (a1_0 : Int) (a1_1 : Bool) (a1_2 : Int) (a1_3 : Int) (a1_4 : Int) (a1_5 : Bool) : Option (Int × Int × Int) := (vernierref05_Is.f a0).bind fun t428 => ((vernierref07_Sound.f a1_0 a1_1 a1_2 a1_3 a1_4 a1_5).bind fun t429 => (if t428 = true then (if t429 = true then (if a1_0 = 1 then ((vernierref01_Text.f k a1_3 64).bind fun t431 => (if 1 ≤ (t431.size : Int) then ((vernierref01_Text.f k a1_4 64).bind fun t432 => (if (t431.extract 1 t431.size).size + t432.size ≤ 9223372036854775807 then (if a1_5 = true then (vernierref07_Cut.j0 k a0 ((t431.extract 1 t431.size) ++ t432) false a1_0 a1_1 a1_2 a1_3 a1_4 a1_5) else ((vernierref07_some.f k ((t431.extract 1 t431.size) ++ t432)).bind fun t433 => (vernierref07_Cut.j0 k a0 ((t431.extract 1 t431.size) ++ t432) (!t433) a1_0 a1_1 a1_2 a1_3 a1_4 a1_5))) else (none))) else (none))) else (if a1_0 = 2 then ((vernierref05_Power.f k (wrap64 (a0 - 1))).bind fun t430 => (some (t430, 0, 0))) else (some (0, 0, 0)))) else (some (0, 0, 1))) else (some (0, 0, 2))))
def vernierref07_Cut.T12 : Bool × List (List Nat × List Nat) := (true, [([], []), ([0], [0]), ([1], [1]), ([2], [2]), ([], []), ([4], [4]), ([5, 2], [5]), ([3, 6], [3, 6]), ([7, 6, 0, 1, 2, 3, 4, 5, 6, 7], [7])])
def vernierref07_Cut.B12 : List Nat := [0, 1, 3, 7, 0, 16, 55, 127, 255]
theorem vernierref07_Cut.tab12 : rtab .any (opsOf Try.f92 12) = vernierref07_Cut.T12 := by kernel_rfl
theorem vernierref07_Cut.bits12 : waitsOk vernierref07_Cut.T12.2 vernierref07_Cut.B12 = true := by kernel_rfl
def vernierref07_Cut.T20 : Bool × List (List Nat × List Nat) := (true, [([], []), ([], []), ([1], [1]), ([0, 2], [0, 2]), ([3], [3]), ([], []), ([], []), ([6], [6]), ([5, 7], [5, 7]), ([], []), ([9], [9]), ([8, 10, 4], [8, 10]), ([4, 11, 0, 1, 2, 3, 4], [4]), ([11, 12, 0, 1, 2, 3, 4, 5, 6, 7, 8, 9, 10, 11, 12], [11]), ([13, 0, 1, 2, 3, 4, 5, 6, 7, 8, 9, 10, 11, 12, 13], [])])
def vernierref07_Cut.B20 : List Nat := [0, 0, 2, 7, 15, 0, 0, 64, 224, 0, 512, 2047, 4095, 8191, 16383]
theorem vernierref07_Cut.tab20 : rtab .any (opsOf Try.f92 20) = vernierref07_Cut.T20 := by kernel_rfl
theorem vernierref07_Cut.bits20 : waitsOk vernierref07_Cut.T20.2 vernierref07_Cut.B20 = true := by kernel_rfl
set_option maxHeartbeats 8000000 in
set_option maxRecDepth 100000 in
theorem vernierref07_Cut.calls (k : Nat) (a0 : Int) (a1_0 : Int) (a1_1 : Bool) (a1_2 : Int) (a1_3 : Int) (a1_4 : Int) (a1_5 : Bool) (r1 : Int) (r2 : Int) (r3 : Int) (w : World) (h : vernierref07_Cut.f k a0 a1_0 a1_1 a1_2 a1_3 a1_4 a1_5 = some (r1, r2, r3)) :
  Calls Try.prog 92 #[.int .i64 a0, .agg #[.int .i64 a1_0, .bool a1_1, .int .i64 a1_2, .int .u64 a1_3, .int .u64 a1_4, .bool a1_5]] w fun e w' => e = .returned (.tuple #[.int .u64 r1, .int .i64 r2, .int .i64 r3]) ∧ Below w.heap.size w w' := by
 have hu61 := Try.underlying61
 have HB := Aside0.mk (Below.refl w.heap.size w)
 have H : ((vernierref05_Is.f a0).bind fun t428 => ((vernierref07_Sound.f a1_0 a1_1 a1_2 a1_3 a1_4 a1_5).bind fun t429 => (if t428 = true then (if t429 = true then (if a1_0 = 1 then ((vernierref01_Text.f k a1_3 64).bind fun t431 => (if 1 ≤ (t431.size : Int) then ((vernierref01_Text.f k a1_4 64).bind fun t432 => (if (t431.extract 1 t431.size).size + t432.size ≤ 9223372036854775807 then (if a1_5 = true then (vernierref07_Cut.j0 k a0 ((t431.extract 1 t431.size) ++ t432) false a1_0 a1_1 a1_2 a1_3 a1_4 a1_5) else ((vernierref07_some.f k ((t431.extract 1 t431.size) ++ t432)).bind fun t433 => (vernierref07_Cut.j0 k a0 ((t431.extract 1 t431.size) ++ t432) (!t433) a1_0 a1_1 a1_2 a1_3 a1_4 a1_5))) else (none))) else (none))) else (if a1_0 = 2 then ((vernierref05_Power.f k (wrap64 (a0 - 1))).bind fun t430 => (some (t430, 0, 0))) else (some (0, 0, 0)))) else (some (0, 0, 1))) else (some (0, 0, 2))))) = some (r1, r2, r3) := h
 clear h
 replace H := Option.bind_eq_some_iff.mp H
 obtain ⟨t428, A30, H⟩ := H
 try dsimp -simprocs only at H
 have A3 := Aside0.mk A30
 clear A30
 replace H := Option.bind_eq_some_iff.mp H
 obtain ⟨t429, A40, H⟩ := H
 try dsimp -simprocs only at H
 have A4 := Aside0.mk A40
 clear A40
 by_cases c5 : t428 = true
 ·
  subst c5
  rw [if_pos rfl] at H
  by_cases c6 : t429 = true
  ·
   subst c6
   rw [if_pos rfl] at H
   by_cases c7 : a1_0 = 1
   ·
    rw [if_pos c7] at H
    have c7b0 : (a1_0 == 1) = true := beq_iff_eq.mpr c7
    have c7b1 : (a1_0 != 1) = false := bne_eq_false_iff_eq.mpr c7
    clear c7
    replace H := Option.bind_eq_some_iff.mp H
    obtain ⟨t431, A80, H⟩ := H
    try dsimp -simprocs only at H
    have A8 := Aside0.mk A80
    clear A80
    by_cases c9 : 1 ≤ (t431.size : Int)
    ·
     rw [if_pos c9] at H
     have c9b0 := eq_true c9
     have c9b1 : decide (1 ≤ (t431.size : Int)) = true := decide_eq_true c9
     clear c9
     replace H := Option.bind_eq_some_iff.mp H
     obtain ⟨t432, A100, H⟩ := H
     try dsimp -simprocs only at H
     have A10 := Aside0.mk A100
     clear A100
     by_cases c11 : (t431.extract 1 t431.size).size + t432.size ≤ 9223372036854775807
     ·
      rw [if_pos c11] at H
      have c11b0 := eq_true c11
      have c11b1 : decide ((t431.extract 1 t431.size).size + t432.size ≤ 9223372036854775807) = true := decide_eq_true c11
      try have c11b2 : (9223372036854775807 < (t431.extract 1 t431.size).size + t432.size) = False := eq_false (Nat.not_lt.2 c11)
      try have c11b3 : (9223372036854775807 < (t431.size - 1) + t432.size) = False := eq_false (by have h_ := c11; simp only [ByteArray.size_append, ByteArray.size_extract] at h_; omega)
      have HC12 := Aside0.mk H
      clear H
      go_enter Try.func92, Try.ntmps92
      try go_wp2_with (first | ((with_reducible refine gD (N := 3) rfl ?_); refine bE3 3 #[.int .i64 a1_0, .bool a1_1, .int .i64 a1_2, .int .u64 a1_3, .int .u64 a1_4, .bool a1_5] 61 ?hr ?_; (case hr => first | (go_simp; done) | (go_simp; rfl)); intro gb427 hg w13 hbox hb; have BK427 := Aside0.mk (hbox); have GW427 := Aside0.mk ((bZ3 hg HB.out)); have GE427 := Aside0.mk ((bZ3 hg HB.out)); replace HB := Aside0.mk (bS3 HB.out hb); clear hb hbox hg) | ((with_reducible refine gX_ 17 15 rfl rfl ?_); refine goesY_ (some 15) Try.func17 #[.int .i64 a0] ?_; (with_reducible refine (vernierref05_Is.calls a0 true _ A3.out).mono ?_); rintro e w' ⟨rfl, ⟨nd, rfl⟩⟩; refine ⟨_, rfl, ?_⟩; obtain ⟨hcz14_0, hcz14_1, hcz14_2, hcz14_3, hcz14_4, hcz14_5, hfz14_0, hfz14_1, hfz14_2, hfz14_3, hfz14_4, hfz14_5⟩ := cl6 BK427.out) | ((with_reducible refine gX_ 102 17 rfl rfl ?_); refine goesY_ (some 17) Try.func102 #[.agg #[.int .i64 a1_0, .bool a1_1, .int .i64 a1_2, .int .u64 a1_3, .int .u64 a1_4, .bool a1_5]] ?_; (with_reducible refine (vernierref07_Sound.calls a1_0 a1_1 a1_2 a1_3 a1_4 a1_5 true _ A4.out).mono ?_); rintro e w15 ⟨rfl, hb⟩; refine ⟨_, rfl, ?_⟩; replace BK427 := Aside0.mk (bB3 BK427.out hb); replace HB := Aside0.mk (bS3 HB.out hb); (try clear hb); (try clear hk); obtain ⟨hcz16_0, hcz16_1, hcz16_2, hcz16_3, hcz16_4, hcz16_5, hfz16_0, hfz16_1, hfz16_2, hfz16_3, hfz16_4, hfz16_5⟩ := cl6 BK427.out))
      have n0_ := Aside0.mk (bD BK427.out)
      have n1_ := Aside0.mk (p1 HB.out)
      clear BK427
      clear HB
      have BK427 := n0_
      have HB := n1_
      clear n0_ n1_
      refine start_ (n := 9) (S := fun w' => w'.cell? ⟨gb427, 0, none⟩ = some (.int .i64 a1_0) ∧ w'.cell? ⟨gb427, 1, none⟩ = some (.bool a1_1) ∧ w'.cell? ⟨gb427, 2, none⟩ = some (.int .i64 a1_2) ∧ w'.cell? ⟨gb427, 3, none⟩ = some (.int .u64 a1_3) ∧ w'.cell? ⟨gb427, 4, none⟩ = some (.int .u64 a1_4) ∧ w'.cell? ⟨gb427, 5, none⟩ = some (.bool a1_5)) (ds := []) #[false, false, false, false, false, false, false, false, false] (by kernel_rfl) rfl rfl ⟨(blk_cell BK427.out 0).trans rfl, (blk_cell BK427.out 1).trans rfl, (blk_cell BK427.out 2).trans rfl, (blk_cell BK427.out 3).trans rfl, (blk_cell BK427.out 4).trans rfl, (blk_cell BK427.out 5).trans rfl⟩ (fun hHeld => ?_); refine with_tabW vernierref07_Cut.tab12 vernierref07_Cut.bits12 (fun HT_ HW_ => ?_)
      generalize w15.drew = w17 at BK427 HB hHeld ⊢
      refine pure_ (i := 0) (N := some 32) (v := ?_) (a' := ?_) #[true, false, false, false, false, false, false, false, false] rfl rfl (any_of HT_.out (by kernel_rfl)) (fun _ _ _ h => h) (Or.inl ⟨by rfl, ?_⟩) ?_ ?_
      rotate_left
      ·
       intro w'
       go_simp
       with_reducible rfl
      rotate_left
      ·
       simp only [Act.put, lS_, lZ_, lC_, i64_w, i32_w]
       rfl
      refine pure_ (i := 4) (N := some 36) (v := ?_) (a' := ?_) #[true, false, false, false, true, false, false, false, false] rfl rfl (any_of HT_.out (by kernel_rfl)) (fun _ _ _ h => h) (Or.inl ⟨by rfl, ?_⟩) ?_ ?_
      rotate_left
      ·
       intro w'
       go_simp
       with_reducible rfl
      rotate_left
      ·
       simp only [Act.put, lS_, lZ_, lC_, i64_w, i32_w]
       rfl
      refine take_ (i := 1) (N := some 33) (v := ?_) (a' := ?_) #[true, true, false, false, true, false, false, false, false] rfl rfl (take_ofW HT_.out HW_.out (by kernel_rfl)) (fun _ _ _ h => h) (Or.inl ⟨by rfl, ?_⟩) hHeld ?_ ?_
      rotate_left
      ·
       rintro w' ⟨s0, s1, s2, s3, s4, s5⟩
       go_simp
       with_reducible rfl
      rotate_left
      ·
       simp only [Act.put, lS_, lZ_, lC_, i64_w, i32_w]
       rfl
      refine take_ (i := 5) (N := some 37) (v := ?_) (a' := ?_) #[true, true, false, false, true, true, false, false, false] rfl rfl (take_ofW HT_.out HW_.out (by kernel_rfl)) (fun _ _ _ h => h) (Or.inl ⟨by rfl, ?_⟩) hHeld ?_ ?_
      rotate_left
      ·
       rintro w' ⟨s0, s1, s2, s3, s4, s5⟩
       go_simp
       with_reducible rfl
      rotate_left
      ·
       simp only [Act.put, lS_, lZ_, lC_, i64_w, i32_w]
       rfl
      refine one_ (i := 2) (N := some 34) #[true, true, true, false, true, true, false, false, false] rfl rfl (one_of HT_.out (by kernel_rfl)) (by decide) (fun K hK => ?_)
      refine goes_ Try.func74 (by kernel_rfl) rfl #[.int .u64 a1_3, .int .i64 64] (by rfl) rfl rfl (by (try simp only [List.map_toArray, List.map_cons, List.map_nil]); first | done | rfl | (simp only [List.length_drop, List.length_take]; rfl)) ?_
      with_reducible refine (vernierref01_Text.calls k a1_3 64 t431 _ A8.out).mono ?_
      rintro e w18 ⟨rfl, hb⟩
      refine ⟨_, rfl, ?_⟩
      have n0_ := Aside0.mk (bB3 BK427.out hb)
      have n1_ := Aside0.mk (bS3 HB.out hb)
      clear BK427
      clear HB
      have BK427 := n0_
      have HB := n1_
      clear n0_ n1_
      (try clear hb)
      (try clear hb2)
      (try clear hk)
      (try clear hi)
      refine hK.out _ _ ⟨(blk_cell BK427.out 0).trans rfl, (blk_cell BK427.out 1).trans rfl, (blk_cell BK427.out 2).trans rfl, (blk_cell BK427.out 3).trans rfl, (blk_cell BK427.out 4).trans rfl, (blk_cell BK427.out 5).trans rfl⟩ (fun hHeld => ?_)
      clear hK K
      refine norm_ (a' := ?_) ?_ ?_
      rotate_left
      ·
       show Act.put _ (some 34) _ = _
       simp only [Act.put, lS_, lZ_, lC_, i64_w, i32_w]
       rfl
      refine pure_ (i := 3) (N := some 35) (v := ?_) (a' := ?_) #[true, true, true, true, true, true, false, false, false] rfl rfl (any_of HT_.out (by kernel_rfl)) (fun _ _ _ h => h) (Or.inl ⟨by rfl, ?_⟩) ?_ ?_
      rotate_left
      ·
       intro w'
       go_simp
       with_reducible rfl
      rotate_left
      ·
       simp only [Act.put, lS_, lZ_, lC_, i64_w, i32_w]
       rfl
      refine one_ (i := 6) (N := some 38) #[true, true, true, true, true, true, true, false, false] rfl rfl (one_of HT_.out (by kernel_rfl)) (by decide) (fun K hK => ?_)
      refine goes_ Try.func74 (by kernel_rfl) rfl #[.int .u64 a1_4, .int .i64 64] (by rfl) rfl rfl (by (try simp only [List.map_toArray, List.map_cons, List.map_nil]); first | done | rfl | (simp only [List.length_drop, List.length_take]; rfl)) ?_
      with_reducible refine (vernierref01_Text.calls k a1_4 64 t432 _ A10.out).mono ?_
      rintro e w19 ⟨rfl, hb⟩
      refine ⟨_, rfl, ?_⟩
      have n0_ := Aside0.mk (bB3 BK427.out hb)
      have n1_ := Aside0.mk (bS3 HB.out hb)
      clear BK427
      clear HB
      have BK427 := n0_
      have HB := n1_
      clear n0_ n1_
      (try clear hb)
      (try clear hb2)
      (try clear hk)
      (try clear hi)
      refine hK.out _ _ ⟨(blk_cell BK427.out 0).trans rfl, (blk_cell BK427.out 1).trans rfl, (blk_cell BK427.out 2).trans rfl, (blk_cell BK427.out 3).trans rfl, (blk_cell BK427.out 4).trans rfl, (blk_cell BK427.out 5).trans rfl⟩ (fun hHeld => ?_)
      clear hK K
      refine norm_ (a' := ?_) ?_ ?_
      rotate_left
      ·
       show Act.put _ (some 38) _ = _
       simp only [Act.put, lS_, lZ_, lC_, i64_w, i32_w]
       rfl
      refine pure_ (i := 7) (N := some 39) (v := ?_) (a' := ?_) #[true, true, true, true, true, true, true, true, false] rfl rfl (any_of HT_.out (by kernel_rfl)) (fun _ _ _ h => h) (Or.inl ⟨by rfl, ?_⟩) ?_ ?_
      rotate_left
      ·
       intro w'
       go_simp
       with_reducible rfl
      rotate_left
      ·
       simp only [Act.put, lS_, lZ_, lC_, i64_w, i32_w]
       rfl
      refine pure_ (i := 8) (N := some 10) (v := ?_) (a' := ?_) #[true, true, true, true, true, true, true, true, true] rfl rfl (any_of HT_.out (by kernel_rfl)) (fun _ _ _ h => h) (Or.inl ⟨by rfl, ?_⟩) ?_ ?_
      rotate_left
      ·
       intro w'
       go_simp
       with_reducible rfl
      rotate_left
      ·
       simp only [Act.put, lS_, lZ_, lC_, i64_w, i32_w]
       rfl
      refine done_ (done_of HT_.out (by kernel_rfl)) ?_
      go_upto_region 13 with (fail)
      go_cut [11] (fun v11 wc => ∃ (kq : Nat) (x11_11 : Bool), v11 = .bool x11_11 ∧ Aside0 (vernierref07_Cut.j0 kq a0 ((t431.extract 1 t431.size) ++ t432) x11_11 a1_0 a1_1 a1_2 a1_3 a1_4 a1_5 = some (r1, r2, r3)) ∧ Aside0 (kq ≤ k) ∧ Aside0 (wc.heap[gb427]? = some (.cells #[.int .i64 a1_0, .bool a1_1, .int .i64 a1_2, .int .u64 a1_3, .int .u64 a1_4, .bool a1_5] 61 (0, 0))) ∧ Aside0 (Below w.heap.size w wc))
      case first =>
       have H := HC12.out
       clear HC12
       by_cases c20 : a1_5 = true
       ·
        subst c20
        rw [if_pos rfl] at H
        have H' := Aside0.mk H
        clear H
        obtain ⟨hcz21_0, hcz21_1, hcz21_2, hcz21_3, hcz21_4, hcz21_5, hfz21_0, hfz21_1, hfz21_2, hfz21_3, hfz21_4, hfz21_5⟩ := cl6 BK427.out
        go_wp2
        go_meet
        case rel => exact ⟨_, (false), (by first | rfl | (simp; done) | (simp [*]; done)), H', ⟨by first | omega | exact Nat.le_refl _⟩, ⟨bK3 BK427.out⟩, ⟨bR3 HB.out⟩⟩
       ·
        replace c20 := Bool.eq_false_iff.mpr c20
        subst c20
        rw [if_neg (show ¬ (false = true) by decide)] at H
        replace H := Option.bind_eq_some_iff.mp H
        obtain ⟨t433, A220, H⟩ := H
        try dsimp -simprocs only at H
        have A22 := Aside0.mk A220
        clear A220
        have H' := Aside0.mk H
        clear H
        obtain ⟨hcz23_0, hcz23_1, hcz23_2, hcz23_3, hcz23_4, hcz23_5, hfz23_0, hfz23_1, hfz23_2, hfz23_3, hfz23_4, hfz23_5⟩ := cl6 BK427.out
        go_wp2_with (first | (go_at_call 103; (with_reducible refine (vernierref07_some.calls k ((t431.extract 1 t431.size) ++ t432) t433 _ A22.out).mono ?_); rintro e w' ⟨rfl, ⟨nd, rfl⟩⟩))
        go_meet
        case rel => exact ⟨_, (!t433), (by first | rfl | (simp; done) | (simp [*]; done)), H', ⟨by first | omega | exact Nat.le_refl _⟩, ⟨bK3 BK427.out⟩, ⟨bR3 HB.out⟩⟩
      case rest =>
       clear HC12
       try clear c1
       try clear c2
       try clear p2
       try clear c5
       try clear c6
       try clear p6
       try clear c7
       try clear c7b0
       try clear c7b1
       try clear c9
       try clear c9b0
       try clear c9b1
       try clear c10
       try clear c11
       try clear c11b0
       try clear c11b1
       try clear c11b2
       try clear c17
       try clear c20
       try clear hcz14_0 hcz14_1 hcz14_2 hcz14_3 hcz14_4 hcz14_5
       try clear hcz16_0 hcz16_1 hcz16_2 hcz16_3 hcz16_4 hcz16_5
       try clear hcz21_0 hcz21_1 hcz21_2 hcz21_3 hcz21_4 hcz21_5
       try clear hcz23_0 hcz23_1 hcz23_2 hcz23_3 hcz23_4 hcz23_5
       try clear hfz14_0 hfz14_1 hfz14_2 hfz14_3 hfz14_4 hfz14_5
       try clear hfz16_0 hfz16_1 hfz16_2 hfz16_3 hfz16_4 hfz16_5
       try clear hfz21_0 hfz21_1 hfz21_2 hfz21_3 hfz21_4 hfz21_5
       try clear hfz23_0 hfz23_1 hfz23_2 hfz23_3 hfz23_4 hfz23_5
       obtain ⟨kq, x11_11, rfl, HA, HJ11, BK427, HB⟩ := hcut
       cases kq with
       | zero => exact absurd HA.out (by simp [vernierref07_Cut.j0])
       | succ kj11 =>
        have H := HA.out
        clear HA
        simp only [vernierref07_Cut.j0] at H
        by_cases c24 : a1_2 ≥ (wrap64 ((wrap64 (4 * a0)) - 8))
        ·
         rw [if_pos c24] at H
         have c24b0 : decide ((wrap64 ((wrap64 (4 * a0)) - 8)) ≤ a1_2) = true := decide_eq_true c24
         clear c24
         replace H := Option.bind_eq_some_iff.mp H
         obtain ⟨t434, A250, H⟩ := H
         try dsimp -simprocs only at H
         have A25 := Aside0.mk A250
         clear A250
         simp only [Option.some.injEq, Prod.mk.injEq] at H
         obtain ⟨rfl, rfl, rfl⟩ := H
         obtain ⟨hcz26_0, hcz26_1, hcz26_2, hcz26_3, hcz26_4, hcz26_5, hfz26_0, hfz26_1, hfz26_2, hfz26_3, hfz26_4, hfz26_5⟩ := cl6 BK427.out
         go_wp2_with (first | ((with_reducible refine gX_ 39 57 rfl rfl ?_); refine goesY_ (some 57) Try.func39 #[.int .i64 (wrap64 (a0 - 1))] ?_; (with_reducible refine (vernierref05_Power.calls kj11 (wrap64 (a0 - 1)) t434 _ A25.out).mono ?_); rintro e w' ⟨rfl, ⟨nd, rfl⟩⟩; refine ⟨_, rfl, ?_⟩))
         go_ret3
         exact ⟨eR3, bR3 HB.out⟩
        ·
         rw [if_neg c24] at H
         have c24b0 : decide ((wrap64 ((wrap64 (4 * a0)) - 8)) ≤ a1_2) = false := decide_eq_false c24
         clear c24
         have HC27 := Aside0.mk H
         clear H
         obtain ⟨hcz28_0, hcz28_1, hcz28_2, hcz28_3, hcz28_4, hcz28_5, hfz28_0, hfz28_1, hfz28_2, hfz28_3, hfz28_4, hfz28_5⟩ := cl6 BK427.out
         go_upto_region 17 with (fail)
         go_cut [73] (fun v73 wc => ∃ (kq : Nat) (x73_26 : Bool), v73 = .bool x73_26 ∧ Aside0 (vernierref07_Cut.j1 kq a0 ((t431.extract 1 t431.size) ++ t432) x73_26 a1_0 a1_1 a1_2 a1_3 a1_4 a1_5 = some (r1, r2, r3)) ∧ Aside0 (kq ≤ kj11) ∧ Aside0 (wc.heap[gb427]? = some (.cells #[.int .i64 a1_0, .bool a1_1, .int .i64 a1_2, .int .u64 a1_3, .int .u64 a1_4, .bool a1_5] 61 (0, 0))) ∧ Aside0 (Below w.heap.size w wc))
         case first =>
          have H := HC27.out
          clear HC27
          by_cases c29 : a1_2 < (wrap64 (-(wrap64 ((wrap64 (4 * a0)) - 8))))
          ·
           rw [if_pos c29] at H
           have c29b0 : decide (a1_2 < (wrap64 (-(wrap64 ((wrap64 (4 * a0)) - 8))))) = true := decide_eq_true c29
           clear c29
           (first | rw [c29b0] | (simp only [i64_w, i32_w]; rw [c29b0]) | skip)
           have H' := Aside0.mk H
           clear H
           obtain ⟨hcz30_0, hcz30_1, hcz30_2, hcz30_3, hcz30_4, hcz30_5, hfz30_0, hfz30_1, hfz30_2, hfz30_3, hfz30_4, hfz30_5⟩ := cl6 BK427.out
           go_wp2
           go_meet
           case rel => exact ⟨_, (true), (by first | rfl | (simp; done) | (simp [*]; done)), H', ⟨by have := HJ11.out; first | omega | exact Nat.le_refl _⟩, ⟨bK3 BK427.out⟩, ⟨bR3 HB.out⟩⟩
          ·
           rw [if_neg c29] at H
           have c29b0 : decide (a1_2 < (wrap64 (-(wrap64 ((wrap64 (4 * a0)) - 8))))) = false := decide_eq_false c29
           clear c29
           (first | rw [c29b0] | (simp only [i64_w, i32_w]; rw [c29b0]) | skip)
           by_cases c31 : a1_2 = (wrap64 (-(wrap64 ((wrap64 (4 * a0)) - 8))))
           ·
            rw [if_pos c31] at H
            have c31b0 : (a1_2 == (wrap64 (-(wrap64 ((wrap64 (4 * a0)) - 8))))) = true := beq_iff_eq.mpr c31
            have c31b1 : (a1_2 != (wrap64 (-(wrap64 ((wrap64 (4 * a0)) - 8))))) = false := bne_eq_false_iff_eq.mpr c31
            clear c31
            have H' := Aside0.mk H
            clear H
            obtain ⟨hcz32_0, hcz32_1, hcz32_2, hcz32_3, hcz32_4, hcz32_5, hfz32_0, hfz32_1, hfz32_2, hfz32_3, hfz32_4, hfz32_5⟩ := cl6 BK427.out
            go_wp2
            go_meet
            case rel => exact ⟨_, (x11_11), (by first | rfl | (simp; done) | (simp [*]; done)), H', ⟨by have := HJ11.out; first | omega | exact Nat.le_refl _⟩, ⟨bK3 BK427.out⟩, ⟨bR3 HB.out⟩⟩
           ·
            rw [if_neg c31] at H
            have c31b0 : (a1_2 == (wrap64 (-(wrap64 ((wrap64 (4 * a0)) - 8))))) = false := beq_eq_false_iff_ne.mpr c31
            have c31b1 : (a1_2 != (wrap64 (-(wrap64 ((wrap64 (4 * a0)) - 8))))) = true := bne_iff_ne.mpr c31
            have H' := Aside0.mk H
            clear H
            obtain ⟨hcz33_0, hcz33_1, hcz33_2, hcz33_3, hcz33_4, hcz33_5, hfz33_0, hfz33_1, hfz33_2, hfz33_3, hfz33_4, hfz33_5⟩ := cl6 BK427.out
            go_wp2
            go_meet
            case rel => exact ⟨_, (false), (by first | rfl | (simp; done) | (simp [*]; done)), H', ⟨by have := HJ11.out; first | omega | exact Nat.le_refl _⟩, ⟨bK3 BK427.out⟩, ⟨bR3 HB.out⟩⟩
         case rest =>
          clear HC27
          try clear c1
          try clear c2
          try clear p2
          try clear c3
          try clear c5
          try clear c6
          try clear p6
          try clear c7
          try clear c7b0
          try clear c7b1
          try clear c9
          try clear c9b0
          try clear c9b1
          try clear c10
          try clear c11
          try clear c11b0
          try clear c11b1
          try clear c11b2
          try clear c17
          try clear c20
          try clear c24
          try clear c24b0
          try clear c29
          try clear c29b0
          try clear c31
          try clear c31b0
          try clear c31b1
          try clear hcz14_0 hcz14_1 hcz14_2 hcz14_3 hcz14_4 hcz14_5
          try clear hcz16_0 hcz16_1 hcz16_2 hcz16_3 hcz16_4 hcz16_5
          try clear hcz21_0 hcz21_1 hcz21_2 hcz21_3 hcz21_4 hcz21_5
          try clear hcz23_0 hcz23_1 hcz23_2 hcz23_3 hcz23_4 hcz23_5
          try clear hcz26_0 hcz26_1 hcz26_2 hcz26_3 hcz26_4 hcz26_5
          try clear hcz28_0 hcz28_1 hcz28_2 hcz28_3 hcz28_4 hcz28_5
          try clear hcz30_0 hcz30_1 hcz30_2 hcz30_3 hcz30_4 hcz30_5
          try clear hcz32_0 hcz32_1 hcz32_2 hcz32_3 hcz32_4 hcz32_5
          try clear hcz33_0 hcz33_1 hcz33_2 hcz33_3 hcz33_4 hcz33_5
          try clear hfz14_0 hfz14_1 hfz14_2 hfz14_3 hfz14_4 hfz14_5
          try clear hfz16_0 hfz16_1 hfz16_2 hfz16_3 hfz16_4 hfz16_5
          try clear hfz21_0 hfz21_1 hfz21_2 hfz21_3 hfz21_4 hfz21_5
          try clear hfz23_0 hfz23_1 hfz23_2 hfz23_3 hfz23_4 hfz23_5
          try clear hfz26_0 hfz26_1 hfz26_2 hfz26_3 hfz26_4 hfz26_5
          try clear hfz28_0 hfz28_1 hfz28_2 hfz28_3 hfz28_4 hfz28_5
          try clear hfz30_0 hfz30_1 hfz30_2 hfz30_3 hfz30_4 hfz30_5
          try clear hfz32_0 hfz32_1 hfz32_2 hfz32_3 hfz32_4 hfz32_5
          try clear hfz33_0 hfz33_1 hfz33_2 hfz33_3 hfz33_4 hfz33_5
          try clear p2
          try clear p6
          obtain ⟨kq, x73_26, rfl, HA, HJ26, BK427, HB⟩ := hcut
          cases kq with
          | zero => exact absurd HA.out (by simp [vernierref07_Cut.j1])
          | succ kj26 =>
           have H := HA.out
           clear HA
           simp only [vernierref07_Cut.j1] at H
           by_cases c34 : x73_26 = true
           ·
            subst c34
            rw [if_pos rfl] at H
            simp only [Option.some.injEq, Prod.mk.injEq] at H
            obtain ⟨rfl, rfl, rfl⟩ := H
            go_wp2
            go_ret3
            exact ⟨eR3, bR3 HB.out⟩
           ·
            replace c34 := Bool.eq_false_iff.mpr c34
            subst c34
            rw [if_neg (show ¬ (false = true) by decide)] at H
            replace H := Option.bind_eq_some_iff.mp H
            obtain ⟨t435, A350, H⟩ := H
            try dsimp -simprocs only at H
            have A35 := Aside0.mk A350
            clear A350
            by_cases c36 : t435.size + ((t431.extract 1 t431.size) ++ t432).size ≤ 9223372036854775807
            ·
             rw [if_pos c36] at H
             have c36b0 := eq_true c36
             have c36b1 : decide (t435.size + ((t431.extract 1 t431.size) ++ t432).size ≤ 9223372036854775807) = true := decide_eq_true c36
             try have c36b2 : (9223372036854775807 < t435.size + ((t431.extract 1 t431.size) ++ t432).size) = False := eq_false (Nat.not_lt.2 c36)
             obtain ⟨ji37, hji37⟩ : ∃ j_ : Int, (wrap64 (a0 - 1)) = j_ := ⟨_, rfl⟩
             replace H : (if 0 ≤ (ji37) then (if (ji37) ≤ ((t435 ++ ((t431.extract 1 t431.size) ++ t432)).size : Int) then ((vernierref01_Number.f kj26 ((t435 ++ ((t431.extract 1 t431.size) ++ t432)).extract 0 ((ji37) : Int).toNat)).bind fun t436 => ((vernierref07_left.f kj26 ((t435 ++ ((t431.extract 1 t431.size) ++ t432)).extract ((ji37) : Int).toNat (t435 ++ ((t431.extract 1 t431.size) ++ t432)).size) a1_5).bind fun t437 => (some (t436, t437, 0)))) else (none)) else (none)) = some (r1, r2, r3) := by first | (rw [hji37] at H; exact H) | (simp only [hji37] at H ⊢; exact H)
             (try rw [hji37] at A35)
             have hji37w : (IntKind.i64.wrap (a0 - 1)) = ji37 := (i64_w _).trans hji37
             by_cases c38 : 0 ≤ (ji37)
             ·
              rw [if_pos c38] at H
              have c38b0 := eq_true c38
              have c38b1 : decide (0 ≤ (ji37)) = true := decide_eq_true c38
              clear c38
              by_cases c39 : (ji37) ≤ ((t435 ++ ((t431.extract 1 t431.size) ++ t432)).size : Int)
              ·
               rw [if_pos c39] at H
               have c39b0 := eq_true c39
               have c39b1 : decide ((ji37) ≤ ((t435 ++ ((t431.extract 1 t431.size) ++ t432)).size : Int)) = true := decide_eq_true c39
               have c39b8 : ((ji37) ≤ (t435.size : Int) + (((t431.size - 1 : Nat) : Int) + (t432.size : Int))) = True := eq_true (by have h_ := c39; simp only [ByteArray.size_append, ByteArray.size_extract] at h_; omega)
               have c39b9 : Aside0 (t435.size + (t431.size - 1 + t432.size) = (t435 ++ ((t431.extract 1 t431.size) ++ t432)).size) := ⟨by simp only [ByteArray.size_append, ByteArray.size_extract]; omega⟩
               replace H := Option.bind_eq_some_iff.mp H
               obtain ⟨t436, A400, H⟩ := H
               try dsimp -simprocs only at H
               have A40 := Aside0.mk A400
               clear A400
               have c41b0 := eq_true (of_decide_eq_true (by first | (with_reducible assumption) | assumption) : 0 ≤ (ji37))
               have c42b0 := eq_true (of_decide_eq_true (by first | (with_reducible assumption) | assumption) : (ji37) ≤ ((t435 ++ ((t431.extract 1 t431.size) ++ t432)).size : Int))
               replace H := Option.bind_eq_some_iff.mp H
               obtain ⟨t437, A430, H⟩ := H
               try dsimp -simprocs only at H
               have A43 := Aside0.mk A430
               clear A430
               simp only [Option.some.injEq, Prod.mk.injEq] at H
               obtain ⟨rfl, rfl, rfl⟩ := H
               obtain ⟨hcz44_0, hcz44_1, hcz44_2, hcz44_3, hcz44_4, hcz44_5, hfz44_0, hfz44_1, hfz44_2, hfz44_3, hfz44_4, hfz44_5⟩ := cl6 BK427.out
               try go_wp2_with (first | ((with_reducible refine gX_ 104 76 rfl rfl ?_); refine goesY_ (some 76) Try.func104 #[.int .i64 a1_2] ?_; (with_reducible refine (vernierref06_Head.calls kj26 a1_2 t435 _ A35.out).mono ?_); rintro e w45 ⟨rfl, hb⟩; refine ⟨_, rfl, ?_⟩; replace BK427 := Aside0.mk (bB3 BK427.out hb); replace HB := Aside0.mk (bS3 HB.out hb); (try clear hb); (try clear hk)))
               have n0_ := Aside0.mk (bD BK427.out)
               have n1_ := Aside0.mk (p1 HB.out)
               clear BK427
               clear HB
               have BK427 := n0_
               have HB := n1_
               clear n0_ n1_
               refine start_ (n := 15) (S := fun w' => w'.cell? ⟨gb427, 0, none⟩ = some (.int .i64 a1_0) ∧ w'.cell? ⟨gb427, 1, none⟩ = some (.bool a1_1) ∧ w'.cell? ⟨gb427, 2, none⟩ = some (.int .i64 a1_2) ∧ w'.cell? ⟨gb427, 3, none⟩ = some (.int .u64 a1_3) ∧ w'.cell? ⟨gb427, 4, none⟩ = some (.int .u64 a1_4) ∧ w'.cell? ⟨gb427, 5, none⟩ = some (.bool a1_5)) (ds := []) #[false, false, false, false, false, false, false, false, false, false, false, false, false, false, false] (by kernel_rfl) rfl rfl ⟨(blk_cell BK427.out 0).trans rfl, (blk_cell BK427.out 1).trans rfl, (blk_cell BK427.out 2).trans rfl, (blk_cell BK427.out 3).trans rfl, (blk_cell BK427.out 4).trans rfl, (blk_cell BK427.out 5).trans rfl⟩ (fun hHeld => ?_); refine with_tabW vernierref07_Cut.tab20 vernierref07_Cut.bits20 (fun HT_ HW_ => ?_)
               generalize w45.drew = w46 at BK427 HB hHeld ⊢
               refine pure_ (i := 0) (N := some 79) (v := ?_) (a' := ?_) #[true, false, false, false, false, false, false, false, false, false, false, false, false, false, false] rfl rfl (any_of HT_.out (by kernel_rfl)) (fun _ _ _ h => h) (Or.inl ⟨by rfl, ?_⟩) ?_ ?_
               rotate_left
               ·
                intro w'
                go_simp
                with_reducible rfl
               rotate_left
               ·
                simp only [Act.put, lS_, lZ_, lC_, i64_w, i32_w]
                rfl
               refine pure_ (i := 1) (N := some 80) (v := ?_) (a' := ?_) #[true, true, false, false, false, false, false, false, false, false, false, false, false, false, false] rfl rfl (any_of HT_.out (by kernel_rfl)) (fun _ _ _ h => h) (Or.inl ⟨by rfl, ?_⟩) ?_ ?_
               rotate_left
               ·
                intro w'
                go_simp
                with_reducible rfl
               rotate_left
               ·
                simp only [Act.put, lS_, lZ_, lC_, i64_w, i32_w]
                rfl
               refine pure_ (i := 2) (N := some 81) (v := ?_) (a' := ?_) #[true, true, true, false, false, false, false, false, false, false, false, false, false, false, false] rfl rfl (any_of HT_.out (by kernel_rfl)) (fun _ _ _ h => h) (Or.inl ⟨by rfl, ?_⟩) ?_ ?_
               rotate_left
               ·
                intro w'
                go_simp
                with_reducible rfl
               rotate_left
               ·
                simp only [Act.put, lS_, lZ_, lC_, i64_w, i32_w]
                rfl
               refine pure_ (i := 3) (N := some 82) (v := ?_) (a' := ?_) #[true, true, true, true, false, false, false, false, false, false, false, false, false, false, false] rfl rfl (any_of HT_.out (by kernel_rfl)) (fun _ _ _ h => h) (Or.inl ⟨by rfl, ?_⟩) ?_ ?_
               rotate_left
               ·
                intro w'
                go_simp
                with_reducible rfl
               rotate_left
               ·
                simp only [Act.put, lS_, lZ_, lC_, i64_w, i32_w]
                rfl
               refine pure_ (i := 5) (N := some 84) (v := ?_) (a' := ?_) #[true, true, true, true, false, true, false, false, false, false, false, false, false, false, false] rfl rfl (any_of HT_.out (by kernel_rfl)) (fun _ _ _ h => h) (Or.inl ⟨by rfl, ?_⟩) ?_ ?_
               rotate_left
               ·
                intro w'
                go_simp
                with_reducible rfl
               rotate_left
               ·
                simp only [Act.put, lS_, lZ_, lC_, i64_w, i32_w]
                rfl
               refine pure_ (i := 6) (N := some 85) (v := ?_) (a' := ?_) #[true, true, true, true, false, true, true, false, false, false, false, false, false, false, false] rfl rfl (any_of HT_.out (by kernel_rfl)) (fun _ _ _ h => h) (Or.inl ⟨by rfl, ?_⟩) ?_ ?_
               rotate_left
               ·
                intro w'
                go_simp
                with_reducible rfl
               rotate_left
               ·
                simp only [Act.put, lS_, lZ_, lC_, i64_w, i32_w]
                rfl
               refine pure_ (i := 7) (N := some 86) (v := ?_) (a' := ?_) #[true, true, true, true, false, true, true, true, false, false, false, false, false, false, false] rfl rfl (any_of HT_.out (by kernel_rfl)) (fun _ _ _ h => h) (Or.inl ⟨by rfl, ?_⟩) ?_ ?_
               rotate_left
               ·
                intro w'
                go_simp
                with_reducible rfl
               rotate_left
               ·
                simp only [Act.put, lS_, lZ_, lC_, i64_w, i32_w]
                rfl
               refine pure_ (i := 8) (N := some 87) (v := ?_) (a' := ?_) #[true, true, true, true, false, true, true, true, true, false, false, false, false, false, false] rfl rfl (any_of HT_.out (by kernel_rfl)) (fun _ _ _ h => h) (Or.inl ⟨by rfl, ?_⟩) ?_ ?_
               rotate_left
               ·
                intro w'
                go_simp
                with_reducible rfl
               rotate_left
               ·
                simp only [Act.put, lS_, lZ_, lC_, i64_w, i32_w]
                rfl
               refine pure_ (i := 9) (N := some 88) (v := ?_) (a' := ?_) #[true, true, true, true, false, true, true, true, true, true, false, false, false, false, false] rfl rfl (any_of HT_.out (by kernel_rfl)) (fun _ _ _ h => h) (Or.inl ⟨by rfl, ?_⟩) ?_ ?_
               rotate_left
               ·
                intro w'
                go_simp
                with_reducible rfl
               rotate_left
               ·
                simp only [Act.put, lS_, lZ_, lC_, i64_w, i32_w]
                rfl
               refine take_ (i := 10) (N := some 89) (v := ?_) (a' := ?_) #[true, true, true, true, false, true, true, true, true, true, true, false, false, false, false] rfl rfl (take_ofW HT_.out HW_.out (by kernel_rfl)) (fun _ _ _ h => h) (Or.inl ⟨by rfl, ?_⟩) hHeld ?_ ?_
               rotate_left
               ·
                rintro w' ⟨s0, s1, s2, s3, s4, s5⟩
                go_simp
                with_reducible rfl
               rotate_left
               ·
                simp only [Act.put, lS_, lZ_, lC_, i64_w, i32_w]
                rfl
               refine one_ (i := 4) (N := some 83) #[true, true, true, true, true, true, true, true, true, true, true, false, false, false, false] rfl rfl (one_of HT_.out (by kernel_rfl)) (by decide) (fun K hK => ?_)
               refine goes_ Try.func75 (by kernel_rfl) rfl #[.string ((t435 ++ ((t431.extract 1 t431.size) ++ t432)).extract 0 ((ji37) : Int).toNat)] (by rfl) rfl rfl (by (try simp only [List.map_toArray, List.map_cons, List.map_nil]); first | done | (simp only [hji37]; rfl) | rfl | (simp only [List.length_drop, List.length_take]; rfl)) ?_
               with_reducible refine (vernierref01_Number.calls kj26 ((t435 ++ ((t431.extract 1 t431.size) ++ t432)).extract 0 ((ji37) : Int).toNat) t436 _ A40.out).mono ?_
               rintro e w' ⟨rfl, ⟨nd, rfl⟩⟩
               refine ⟨_, rfl, ?_⟩
               refine hK.out _ _ ⟨(blk_cell BK427.out 0).trans rfl, (blk_cell BK427.out 1).trans rfl, (blk_cell BK427.out 2).trans rfl, (blk_cell BK427.out 3).trans rfl, (blk_cell BK427.out 4).trans rfl, (blk_cell BK427.out 5).trans rfl⟩ (fun hHeld => ?_)
               clear hK K
               refine norm_ (a' := ?_) ?_ ?_
               rotate_left
               ·
                show Act.put _ (some 83) _ = _
                simp only [Act.put, lS_, lZ_, lC_, i64_w, i32_w]
                rfl
               refine one_ (i := 11) (N := some 90) #[true, true, true, true, true, true, true, true, true, true, true, true, false, false, false] rfl rfl (one_of HT_.out (by kernel_rfl)) (by decide) (fun K hK => ?_)
               refine goes_ Try.func105 (by kernel_rfl) rfl #[.string ((t435 ++ ((t431.extract 1 t431.size) ++ t432)).extract ((ji37) : Int).toNat (t435 ++ ((t431.extract 1 t431.size) ++ t432)).size), .bool a1_5] (by rfl) rfl rfl (by (try simp only [List.map_toArray, List.map_cons, List.map_nil]); first | done | (rw [← c39b9.out]; rfl) | (simp only [hji37]; rfl) | rfl | (simp only [List.length_drop, List.length_take]; rfl)) ?_
               with_reducible refine (vernierref07_left.calls kj26 ((t435 ++ ((t431.extract 1 t431.size) ++ t432)).extract ((ji37) : Int).toNat (t435 ++ ((t431.extract 1 t431.size) ++ t432)).size) a1_5 t437 _ A43.out).mono ?_
               rintro e w' ⟨rfl, ⟨nd, rfl⟩⟩
               refine ⟨_, rfl, ?_⟩
               refine hK.out _ _ ⟨(blk_cell BK427.out 0).trans rfl, (blk_cell BK427.out 1).trans rfl, (blk_cell BK427.out 2).trans rfl, (blk_cell BK427.out 3).trans rfl, (blk_cell BK427.out 4).trans rfl, (blk_cell BK427.out 5).trans rfl⟩ (fun hHeld => ?_)
               clear hK K
               refine norm_ (a' := ?_) ?_ ?_
               rotate_left
               ·
                show Act.put _ (some 90) _ = _
                simp only [Act.put, lS_, lZ_, lC_, i64_w, i32_w]
                rfl
               refine pure_ (i := 12) (N := some 4) (v := ?_) (a' := ?_) #[true, true, true, true, true, true, true, true, true, true, true, true, true, false, false] rfl rfl (any_of HT_.out (by kernel_rfl)) (fun _ _ _ h => h) (Or.inl ⟨by rfl, ?_⟩) ?_ ?_
               rotate_left
               ·
                intro w'
                go_simp
                with_reducible rfl
               rotate_left
               ·
                simp only [Act.put, lS_, lZ_, lC_, i64_w, i32_w]
                rfl
               refine pure_ (i := 13) (N := some 5) (v := ?_) (a' := ?_) #[true, true, true, true, true, true, true, true, true, true, true, true, true, true, false] rfl rfl (any_of HT_.out (by kernel_rfl)) (fun _ _ _ h => h) (Or.inl ⟨by rfl, ?_⟩) ?_ ?_
               rotate_left
               ·
                intro w'
                go_simp
                with_reducible rfl
               rotate_left
               ·
                simp only [Act.put, lS_, lZ_, lC_, i64_w, i32_w]
                rfl
               refine pure_ (i := 14) (N := some 6) (v := ?_) (a' := ?_) #[true, true, true, true, true, true, true, true, true, true, true, true, true, true, true] rfl rfl (any_of HT_.out (by kernel_rfl)) (fun _ _ _ h => h) (Or.inl ⟨by rfl, ?_⟩) ?_ ?_
               rotate_left
               ·
                intro w'
                go_simp
                with_reducible rfl
               rotate_left
               ·
                simp only [Act.put, lS_, lZ_, lC_, i64_w, i32_w]
                rfl
               refine done_ (done_of HT_.out (by kernel_rfl)) ?_
               try go_wp2
               go_ret3
               exact ⟨by first | rfl | (simp [errW_none, errW_some] <;> rfl) | (simp only [← hji37]; first | rfl | (simp [errW_none, errW_some] <;> rfl)) | (simp [*, errW_none, errW_some] <;> rfl), bR3 HB.out⟩
              ·
               rw [if_neg c39] at H
               exact absurd H (by simp)
             ·
              rw [if_neg c38] at H
              exact absurd H (by simp)
            ·
             rw [if_neg c36] at H
             exact absurd H (by simp)
     ·
      rw [if_neg c11] at H
      exact absurd H (by simp)
    ·
     rw [if_neg c9] at H
     exact absurd H (by simp)
   ·
    rw [if_neg c7] at H
    have c7b0 : (a1_0 == 1) = false := beq_eq_false_iff_ne.mpr c7
    have c7b1 : (a1_0 != 1) = true := bne_iff_ne.mpr c7
    by_cases c47 : a1_0 = 2
    ·
     rw [if_pos c47] at H
     have c47b0 : (a1_0 == 2) = true := beq_iff_eq.mpr c47
     have c47b1 : (a1_0 != 2) = false := bne_eq_false_iff_eq.mpr c47
     clear c47
     replace H := Option.bind_eq_some_iff.mp H
     obtain ⟨t430, A480, H⟩ := H
     try dsimp -simprocs only at H
     have A48 := Aside0.mk A480
     clear A480
     simp only [Option.some.injEq, Prod.mk.injEq] at H
     obtain ⟨rfl, rfl, rfl⟩ := H
     go_enter Try.func92, Try.ntmps92
     go_wp2_with (first | ((with_reducible refine gD (N := 3) rfl ?_); refine bE3 3 #[.int .i64 a1_0, .bool a1_1, .int .i64 a1_2, .int .u64 a1_3, .int .u64 a1_4, .bool a1_5] 61 ?hr ?_; (case hr => first | (go_simp; done) | (go_simp; rfl)); intro gb427 hg w49 hbox hb; have BK427 := Aside0.mk (hbox); have GW427 := Aside0.mk ((bZ3 hg HB.out)); have GE427 := Aside0.mk ((bZ3 hg HB.out)); replace HB := Aside0.mk (bS3 HB.out hb); clear hb hbox hg) | ((with_reducible refine gX_ 17 15 rfl rfl ?_); refine goesY_ (some 15) Try.func17 #[.int .i64 a0] ?_; (with_reducible refine (vernierref05_Is.calls a0 true _ A3.out).mono ?_); rintro e w' ⟨rfl, ⟨nd, rfl⟩⟩; refine ⟨_, rfl, ?_⟩; obtain ⟨hcz50_0, hcz50_1, hcz50_2, hcz50_3, hcz50_4, hcz50_5, hfz50_0, hfz50_1, hfz50_2, hfz50_3, hfz50_4, hfz50_5⟩ := cl6 BK427.out) | ((with_reducible refine gX_ 102 17 rfl rfl ?_); refine goesY_ (some 17) Try.func102 #[.agg #[.int .i64 a1_0, .bool a1_1, .int .i64 a1_2, .int .u64 a1_3, .int .u64 a1_4, .bool a1_5]] ?_; (with_reducible refine (vernierref07_Sound.calls a1_0 a1_1 a1_2 a1_3 a1_4 a1_5 true _ A4.out).mono ?_); rintro e w51 ⟨rfl, hb⟩; refine ⟨_, rfl, ?_⟩; replace BK427 := Aside0.mk (bB3 BK427.out hb); replace HB := Aside0.mk (bS3 HB.out hb); (try clear hb); (try clear hk); obtain ⟨hcz52_0, hcz52_1, hcz52_2, hcz52_3, hcz52_4, hcz52_5, hfz52_0, hfz52_1, hfz52_2, hfz52_3, hfz52_4, hfz52_5⟩ := cl6 BK427.out) | ((with_reducible refine gX_ 39 30 rfl rfl ?_); refine goesY_ (some 30) Try.func39 #[.int .i64 (wrap64 (a0 - 1))] ?_; (with_reducible refine (vernierref05_Power.calls k (wrap64 (a0 - 1)) t430 _ A48.out).mono ?_); rintro e w' ⟨rfl, ⟨nd, rfl⟩⟩; refine ⟨_, rfl, ?_⟩))
     go_ret3
     exact ⟨eR3, bR3 HB.out⟩
    ·
     rw [if_neg c47] at H
     have c47b0 : (a1_0 == 2) = false := beq_eq_false_iff_ne.mpr c47
     have c47b1 : (a1_0 != 2) = true := bne_iff_ne.mpr c47
     simp only [Option.some.injEq, Prod.mk.injEq] at H
     obtain ⟨rfl, rfl, rfl⟩ := H
     go_enter Try.func92, Try.ntmps92
     go_wp2_with (first | ((with_reducible refine gD (N := 3) rfl ?_); refine bE3 3 #[.int .i64 a1_0, .bool a1_1, .int .i64 a1_2, .int .u64 a1_3, .int .u64 a1_4, .bool a1_5] 61 ?hr ?_; (case hr => first | (go_simp; done) | (go_simp; rfl)); intro gb427 hg w53 hbox hb; have BK427 := Aside0.mk (hbox); have GW427 := Aside0.mk ((bZ3 hg HB.out)); have GE427 := Aside0.mk ((bZ3 hg HB.out)); replace HB := Aside0.mk (bS3 HB.out hb); clear hb hbox hg) | ((with_reducible refine gX_ 17 15 rfl rfl ?_); refine goesY_ (some 15) Try.func17 #[.int .i64 a0] ?_; (with_reducible refine (vernierref05_Is.calls a0 true _ A3.out).mono ?_); rintro e w' ⟨rfl, ⟨nd, rfl⟩⟩; refine ⟨_, rfl, ?_⟩; obtain ⟨hcz54_0, hcz54_1, hcz54_2, hcz54_3, hcz54_4, hcz54_5, hfz54_0, hfz54_1, hfz54_2, hfz54_3, hfz54_4, hfz54_5⟩ := cl6 BK427.out) | ((with_reducible refine gX_ 102 17 rfl rfl ?_); refine goesY_ (some 17) Try.func102 #[.agg #[.int .i64 a1_0, .bool a1_1, .int .i64 a1_2, .int .u64 a1_3, .int .u64 a1_4, .bool a1_5]] ?_; (with_reducible refine (vernierref07_Sound.calls a1_0 a1_1 a1_2 a1_3 a1_4 a1_5 true _ A4.out).mono ?_); rintro e w55 ⟨rfl, hb⟩; refine ⟨_, rfl, ?_⟩; replace BK427 := Aside0.mk (bB3 BK427.out hb); replace HB := Aside0.mk (bS3 HB.out hb); (try clear hb); (try clear hk); obtain ⟨hcz56_0, hcz56_1, hcz56_2, hcz56_3, hcz56_4, hcz56_5, hfz56_0, hfz56_1, hfz56_2, hfz56_3, hfz56_4, hfz56_5⟩ := cl6 BK427.out))
     go_ret3
     exact ⟨eR3, bR3 HB.out⟩
  ·
   replace c6 := Bool.eq_false_iff.mpr c6
   subst c6
   rw [if_neg (show ¬ (false = true) by decide)] at H
   simp only [Option.some.injEq, Prod.mk.injEq] at H
   obtain ⟨rfl, rfl, rfl⟩ := H
   go_enter Try.func92, Try.ntmps92
   go_wp2_with (first | ((with_reducible refine gD (N := 3) rfl ?_); refine bE3 3 #[.int .i64 a1_0, .bool a1_1, .int .i64 a1_2, .int .u64 a1_3, .int .u64 a1_4, .bool a1_5] 61 ?hr ?_; (case hr => first | (go_simp; done) | (go_simp; rfl)); intro gb427 hg w57 hbox hb; have BK427 := Aside0.mk (hbox); have GW427 := Aside0.mk ((bZ3 hg HB.out)); have GE427 := Aside0.mk ((bZ3 hg HB.out)); replace HB := Aside0.mk (bS3 HB.out hb); clear hb hbox hg) | ((with_reducible refine gX_ 17 15 rfl rfl ?_); refine goesY_ (some 15) Try.func17 #[.int .i64 a0] ?_; (with_reducible refine (vernierref05_Is.calls a0 true _ A3.out).mono ?_); rintro e w' ⟨rfl, ⟨nd, rfl⟩⟩; refine ⟨_, rfl, ?_⟩; obtain ⟨hcz58_0, hcz58_1, hcz58_2, hcz58_3, hcz58_4, hcz58_5, hfz58_0, hfz58_1, hfz58_2, hfz58_3, hfz58_4, hfz58_5⟩ := cl6 BK427.out) | ((with_reducible refine gX_ 102 17 rfl rfl ?_); refine goesY_ (some 17) Try.func102 #[.agg #[.int .i64 a1_0, .bool a1_1, .int .i64 a1_2, .int .u64 a1_3, .int .u64 a1_4, .bool a1_5]] ?_; (with_reducible refine (vernierref07_Sound.calls a1_0 a1_1 a1_2 a1_3 a1_4 a1_5 false _ A4.out).mono ?_); rintro e w59 ⟨rfl, hb⟩; refine ⟨_, rfl, ?_⟩; replace BK427 := Aside0.mk (bB3 BK427.out hb); replace HB := Aside0.mk (bS3 HB.out hb); (try clear hb); (try clear hk)))
   go_ret3
   exact ⟨eR3, bR3 HB.out⟩
 ·
  replace c5 := Bool.eq_false_iff.mpr c5
  subst c5
  rw [if_neg (show ¬ (false = true) by decide)] at H
  simp only [Option.some.injEq, Prod.mk.injEq] at H
  obtain ⟨rfl, rfl, rfl⟩ := H
  go_enter Try.func92, Try.ntmps92
  go_wp2_with (first | ((with_reducible refine gD (N := 3) rfl ?_); refine bE3 3 #[.int .i64 a1_0, .bool a1_1, .int .i64 a1_2, .int .u64 a1_3, .int .u64 a1_4, .bool a1_5] 61 ?hr ?_; (case hr => first | (go_simp; done) | (go_simp; rfl)); intro gb427 hg w60 hbox hb; have BK427 := Aside0.mk (hbox); have GW427 := Aside0.mk ((bZ3 hg HB.out)); have GE427 := Aside0.mk ((bZ3 hg HB.out)); replace HB := Aside0.mk (bS3 HB.out hb); clear hb hbox hg) | ((with_reducible refine gX_ 17 15 rfl rfl ?_); refine goesY_ (some 15) Try.func17 #[.int .i64 a0] ?_; (with_reducible refine (vernierref05_Is.calls a0 false _ A3.out).mono ?_); rintro e w' ⟨rfl, ⟨nd, rfl⟩⟩; refine ⟨_, rfl, ?_⟩; obtain ⟨hcz61_0, hcz61_1, hcz61_2, hcz61_3, hcz61_4, hcz61_5, hfz61_0, hfz61_1, hfz61_2, hfz61_3, hfz61_4, hfz61_5⟩ := cl6 BK427.out) | ((with_reducible refine gX_ 102 17 rfl rfl ?_); refine goesY_ (some 17) Try.func102 #[.agg #[.int .i64 a1_0, .bool a1_1, .int .i64 a1_2, .int .u64 a1_3, .int .u64 a1_4, .bool a1_5]] ?_; (with_reducible refine (vernierref07_Sound.calls a1_0 a1_1 a1_2 a1_3 a1_4 a1_5 t429 _ A4.out).mono ?_); rintro e w62 ⟨rfl, hb⟩; refine ⟨_, rfl, ?_⟩; replace BK427 := Aside0.mk (bB3 BK427.out hb); replace HB := Aside0.mk (bS3 HB.out hb); (try clear hb); (try clear hk)))
  go_ret3
  exact ⟨eR3, bR3 HB.out⟩
def vernierref07_Rounds.j0 : Nat → Int → Int → Bool → Int → Bool → Int → Int → Int → Bool → Option (Int × Int)
 | 0, _, _, _, _, _, _, _, _, _ => none
 | k + 1, x0, x6, x29, x445000, x445001, x445002, x445003, x445004, x445005 => if x29 = true then (if x445001 = true then ((vernierref06_Neg.f k x0 (IntKind.u64.wrap (x6 + 1))).bind fun t448 => (some (t448, 0))) else (some (IntKind.u64.wrap (x6 + 1), 0))) else (if x445001 = true then ((vernierref06_Neg.f k x0 x6).bind fun t449 => (some (t449, 0))) else (some (x6, 0)))
def vernierref07_Rounds.f (k : Nat) (a0 : Int) (a1_0 : Int) (a1_1 : Bool) (a1_2 : Int) (a1_3 : Int) (a1_4 : Int) (a1_5 : Bool) : Option (Int × Int) := (vernierref07_Cut.f k a0 a1_0 a1_1 a1_2 a1_3 a1_4 a1_5).bind fun bt445 => (if bt445.2.2 = 0 then (if bt445.2.1 = 3 then (vernierref07_Rounds.j0 k a0 bt445.1 true a1_0 a1_1 a1_2 a1_3 a1_4 a1_5) else (if bt445.2.1 = 2 then (vernierref07_Rounds.j0 k a0 bt445.1 ((Int.tmod bt445.1 2) == 1) a1_0 a1_1 a1_2 a1_3 a1_4 a1_5) else (vernierref07_Rounds.j0 k a0 bt445.1 false a1_0 a1_1 a1_2 a1_3 a1_4 a1_5))) else (some (0, bt445.2.2)))
set_option maxHeartbeats 8000000 in
set_option maxRecDepth 100000 in
theorem vernierref07_Rounds.calls (k : Nat) (a0 : Int) (a1_0 : Int) (a1_1 : Bool) (a1_2 : Int) (a1_3 : Int) (a1_4 : Int) (a1_5 : Bool) (r1 : Int) (r2 : Int) (w : World) (h : vernierref07_Rounds.f k a0 a1_0 a1_1 a1_2 a1_3 a1_4 a1_5 = some (r1, r2)) :
  Calls Try.prog 69 #[.int .i64 a0, .agg #[.int .i64 a1_0, .bool a1_1, .int .i64 a1_2, .int .u64 a1_3, .int .u64 a1_4, .bool a1_5]] w fun e w' => e = .returned (.tuple #[.int .u64 r1, .int .i64 r2]) ∧ Below w.heap.size w w' := by
 have hu61 := Try.underlying61
 have HB := Aside0.mk (Below.refl w.heap.size w)
 have H : ((vernierref07_Cut.f k a0 a1_0 a1_1 a1_2 a1_3 a1_4 a1_5).bind fun bt445 => (if bt445.2.2 = 0 then (if bt445.2.1 = 3 then (vernierref07_Rounds.j0 k a0 bt445.1 true a1_0 a1_1 a1_2 a1_3 a1_4 a1_5) else (if bt445.2.1 = 2 then (vernierref07_Rounds.j0 k a0 bt445.1 ((Int.tmod bt445.1 2) == 1) a1_0 a1_1 a1_2 a1_3 a1_4 a1_5) else (vernierref07_Rounds.j0 k a0 bt445.1 false a1_0 a1_1 a1_2 a1_3 a1_4 a1_5))) else (some (0, bt445.2.2)))) = some (r1, r2) := h
 clear h
 replace H := Option.bind_eq_some_iff.mp H
 obtain ⟨⟨t445, t446, t447⟩, A30, H⟩ := H
 try dsimp -simprocs only at H
 have A3 := Aside0.mk A30
 clear A30
 by_cases c4 : t447 = 0
 ·
  rw [if_pos c4] at H
  have c4b0 : (t447 == 0) = true := beq_iff_eq.mpr c4
  have c4b1 : (t447 != 0) = false := bne_eq_false_iff_eq.mpr c4
  clear c4
  have HC5 := Aside0.mk H
  clear H
  go_enter Try.func69, Try.ntmps69
  go_upto_region 4 with (first | ((with_reducible refine gD (N := 3) rfl ?_); refine bE3 3 #[.int .i64 a1_0, .bool a1_1, .int .i64 a1_2, .int .u64 a1_3, .int .u64 a1_4, .bool a1_5] 61 ?hr ?_; (case hr => first | (go_simp; done) | (go_simp; rfl)); intro gb444 hg w6 hbox hb; have BK444 := Aside0.mk (hbox); have GW444 := Aside0.mk ((bZ3 hg HB.out)); have GE444 := Aside0.mk ((bZ3 hg HB.out)); replace HB := Aside0.mk (bS3 HB.out hb); clear hb hbox hg; obtain ⟨hcz7_0, hcz7_1, hcz7_2, hcz7_3, hcz7_4, hcz7_5, hfz7_0, hfz7_1, hfz7_2, hfz7_3, hfz7_4, hfz7_5⟩ := cl6 BK444.out) | ((with_reducible refine gX_ 92 12 rfl rfl ?_); refine goesY_ (some 12) Try.func92 #[.int .i64 a0, .agg #[.int .i64 a1_0, .bool a1_1, .int .i64 a1_2, .int .u64 a1_3, .int .u64 a1_4, .bool a1_5]] ?_; (with_reducible refine (vernierref07_Cut.calls k a0 a1_0 a1_1 a1_2 a1_3 a1_4 a1_5 t445 t446 t447 _ A3.out).mono ?_); rintro e w8 ⟨rfl, hb⟩; refine ⟨_, rfl, ?_⟩; replace BK444 := Aside0.mk (bB3 BK444.out hb); replace HB := Aside0.mk (bS3 HB.out hb); (try clear hb); (try clear hk)))
  (try simp only [Act.put, lS_, lZ_, lC_])
  go_cut [29] (fun v29 wc => ∃ (kq : Nat) (x29_4 : Bool), v29 = .bool x29_4 ∧ Aside0 (vernierref07_Rounds.j0 kq a0 t445 x29_4 a1_0 a1_1 a1_2 a1_3 a1_4 a1_5 = some (r1, r2)) ∧ Aside0 (kq ≤ k) ∧ Aside0 (wc.heap[gb444]? = some (.cells #[.int .i64 a1_0, .bool a1_1, .int .i64 a1_2, .int .u64 a1_3, .int .u64 a1_4, .bool a1_5] 61 (0, 0))) ∧ Aside0 (Below w.heap.size w wc))
  case first =>
   have H := HC5.out
   clear HC5
   by_cases c9 : t446 = 3
   ·
    rw [if_pos c9] at H
    have c9b0 : (t446 == 3) = true := beq_iff_eq.mpr c9
    have c9b1 : (t446 != 3) = false := bne_eq_false_iff_eq.mpr c9
    clear c9
    (first | rw [c9b0] | (simp only [i64_w, i32_w]; rw [c9b0]) | skip)
    have H' := Aside0.mk H
    clear H
    go_wp2
    go_meet
    case rel => exact ⟨_, (true), (by first | rfl | (simp; done) | (simp [*]; done)), H', ⟨by first | omega | exact Nat.le_refl _⟩, ⟨bK3 BK444.out⟩, ⟨bR3 HB.out⟩⟩
   ·
    rw [if_neg c9] at H
    have c9b0 : (t446 == 3) = false := beq_eq_false_iff_ne.mpr c9
    have c9b1 : (t446 != 3) = true := bne_iff_ne.mpr c9
    (first | rw [c9b0] | (simp only [i64_w, i32_w]; rw [c9b0]) | skip)
    by_cases c10 : t446 = 2
    ·
     rw [if_pos c10] at H
     have c10b0 : (t446 == 2) = true := beq_iff_eq.mpr c10
     have c10b1 : (t446 != 2) = false := bne_eq_false_iff_eq.mpr c10
     clear c10
     have H' := Aside0.mk H
     clear H
     go_wp2
     go_meet
     case rel => exact ⟨_, (((Int.tmod t445 2) == 1)), (by first | rfl | (simp; done) | (simp [*]; done)), H', ⟨by first | omega | exact Nat.le_refl _⟩, ⟨bK3 BK444.out⟩, ⟨bR3 HB.out⟩⟩
    ·
     rw [if_neg c10] at H
     have c10b0 : (t446 == 2) = false := beq_eq_false_iff_ne.mpr c10
     have c10b1 : (t446 != 2) = true := bne_iff_ne.mpr c10
     have H' := Aside0.mk H
     clear H
     go_wp2
     go_meet
     case rel => exact ⟨_, (false), (by first | rfl | (simp; done) | (simp [*]; done)), H', ⟨by first | omega | exact Nat.le_refl _⟩, ⟨bK3 BK444.out⟩, ⟨bR3 HB.out⟩⟩
  case rest =>
   clear HC5
   try clear c1
   try clear p2
   try clear c4
   try clear c4b0
   try clear c4b1
   try clear c6
   try clear c9
   try clear c9b0
   try clear c9b1
   try clear c10
   try clear c10b0
   try clear c10b1
   try clear hcz7_0 hcz7_1 hcz7_2 hcz7_3 hcz7_4 hcz7_5 hfz7_0 hfz7_1 hfz7_2 hfz7_3 hfz7_4 hfz7_5
   obtain ⟨kq, x29_4, rfl, HA, HJ4, BK444, HB⟩ := hcut
   cases kq with
   | zero => exact absurd HA.out (by simp [vernierref07_Rounds.j0])
   | succ kj4 =>
    have H := HA.out
    clear HA
    simp only [vernierref07_Rounds.j0] at H
    by_cases c11 : x29_4 = true
    ·
     subst c11
     rw [if_pos rfl] at H
     by_cases c12 : a1_1 = true
     ·
      subst c12
      rw [if_pos rfl] at H
      replace H := Option.bind_eq_some_iff.mp H
      obtain ⟨t448, A130, H⟩ := H
      try dsimp -simprocs only at H
      have A13 := Aside0.mk A130
      clear A130
      simp only [Option.some.injEq, Prod.mk.injEq] at H
      obtain ⟨rfl, rfl⟩ := H
      obtain ⟨hcz14_0, hcz14_1, hcz14_2, hcz14_3, hcz14_4, hcz14_5, hfz14_0, hfz14_1, hfz14_2, hfz14_3, hfz14_4, hfz14_5⟩ := cl6 BK444.out
      go_wp2_with (first | ((with_reducible refine gX_ 93 36 rfl rfl ?_); refine goesY_ (some 36) Try.func93 #[.int .i64 a0, .int .u64 (IntKind.u64.wrap (t445 + 1))] ?_; (with_reducible refine (vernierref06_Neg.calls kj4 a0 (IntKind.u64.wrap (t445 + 1)) t448 _ A13.out).mono ?_); rintro e w15 ⟨rfl, hb⟩; refine ⟨_, rfl, ?_⟩; replace BK444 := Aside0.mk (bB3 BK444.out hb); replace HB := Aside0.mk (bS3 HB.out hb); (try clear hb); (try clear hk)))
      go_ret2
      exact ⟨eR3, bR3 HB.out⟩
     ·
      replace c12 := Bool.eq_false_iff.mpr c12
      subst c12
      rw [if_neg (show ¬ (false = true) by decide)] at H
      simp only [Option.some.injEq, Prod.mk.injEq] at H
      obtain ⟨rfl, rfl⟩ := H
      obtain ⟨hcz16_0, hcz16_1, hcz16_2, hcz16_3, hcz16_4, hcz16_5, hfz16_0, hfz16_1, hfz16_2, hfz16_3, hfz16_4, hfz16_5⟩ := cl6 BK444.out
      go_wp2
      go_ret2
      exact ⟨eR3, bR3 HB.out⟩
    ·
     replace c11 := Bool.eq_false_iff.mpr c11
     subst c11
     rw [if_neg (show ¬ (false = true) by decide)] at H
     by_cases c17 : a1_1 = true
     ·
      subst c17
      rw [if_pos rfl] at H
      replace H := Option.bind_eq_some_iff.mp H
      obtain ⟨t449, A180, H⟩ := H
      try dsimp -simprocs only at H
      have A18 := Aside0.mk A180
      clear A180
      simp only [Option.some.injEq, Prod.mk.injEq] at H
      obtain ⟨rfl, rfl⟩ := H
      obtain ⟨hcz19_0, hcz19_1, hcz19_2, hcz19_3, hcz19_4, hcz19_5, hfz19_0, hfz19_1, hfz19_2, hfz19_3, hfz19_4, hfz19_5⟩ := cl6 BK444.out
      go_wp2_with (first | ((with_reducible refine gX_ 93 36 rfl rfl ?_); refine goesY_ (some 36) Try.func93 #[.int .i64 a0, .int .u64 t445] ?_; (with_reducible refine (vernierref06_Neg.calls kj4 a0 t445 t449 _ A18.out).mono ?_); rintro e w20 ⟨rfl, hb⟩; refine ⟨_, rfl, ?_⟩; replace BK444 := Aside0.mk (bB3 BK444.out hb); replace HB := Aside0.mk (bS3 HB.out hb); (try clear hb); (try clear hk)))
      go_ret2
      exact ⟨eR3, bR3 HB.out⟩
     ·
      replace c17 := Bool.eq_false_iff.mpr c17
      subst c17
      rw [if_neg (show ¬ (false = true) by decide)] at H
      simp only [Option.some.injEq, Prod.mk.injEq] at H
      obtain ⟨rfl, rfl⟩ := H
      obtain ⟨hcz21_0, hcz21_1, hcz21_2, hcz21_3, hcz21_4, hcz21_5, hfz21_0, hfz21_1, hfz21_2, hfz21_3, hfz21_4, hfz21_5⟩ := cl6 BK444.out
      go_wp2
      go_ret2
      exact ⟨eR3, bR3 HB.out⟩
 ·
  rw [if_neg c4] at H
  have c4b0 : (t447 == 0) = false := beq_eq_false_iff_ne.mpr c4
  have c4b1 : (t447 != 0) = true := bne_iff_ne.mpr c4
  simp only [Option.some.injEq, Prod.mk.injEq] at H
  obtain ⟨rfl, rfl⟩ := H
  go_enter Try.func69, Try.ntmps69
  go_wp2_with (first | ((with_reducible refine gD (N := 3) rfl ?_); refine bE3 3 #[.int .i64 a1_0, .bool a1_1, .int .i64 a1_2, .int .u64 a1_3, .int .u64 a1_4, .bool a1_5] 61 ?hr ?_; (case hr => first | (go_simp; done) | (go_simp; rfl)); intro gb444 hg w22 hbox hb; have BK444 := Aside0.mk (hbox); have GW444 := Aside0.mk ((bZ3 hg HB.out)); have GE444 := Aside0.mk ((bZ3 hg HB.out)); replace HB := Aside0.mk (bS3 HB.out hb); clear hb hbox hg; obtain ⟨hcz23_0, hcz23_1, hcz23_2, hcz23_3, hcz23_4, hcz23_5, hfz23_0, hfz23_1, hfz23_2, hfz23_3, hfz23_4, hfz23_5⟩ := cl6 BK444.out) | ((with_reducible refine gX_ 92 12 rfl rfl ?_); refine goesY_ (some 12) Try.func92 #[.int .i64 a0, .agg #[.int .i64 a1_0, .bool a1_1, .int .i64 a1_2, .int .u64 a1_3, .int .u64 a1_4, .bool a1_5]] ?_; (with_reducible refine (vernierref07_Cut.calls k a0 a1_0 a1_1 a1_2 a1_3 a1_4 a1_5 t445 t446 t447 _ A3.out).mono ?_); rintro e w24 ⟨rfl, hb⟩; refine ⟨_, rfl, ?_⟩; replace BK444 := Aside0.mk (bB3 BK444.out hb); replace HB := Aside0.mk (bS3 HB.out hb); (try clear hb); (try clear hk)))
  go_ret2
  exact ⟨eR3, bR3 HB.out⟩
def vernierref07_Round.f (k : Nat) (a0 : Int) (a1_0 : Int) (a1_1 : Bool) (a1_2 : Int) (a1_3 : Int) (a1_4 : Int) (a1_5 : Bool) : Option (Int) := (vernierref07_Rounds.f k a0 a1_0 a1_1 a1_2 a1_3 a1_4 a1_5).bind fun bt451 => (some bt451.1)
set_option maxHeartbeats 8000000 in
set_option maxRecDepth 100000 in
theorem vernierref07_Round.calls (k : Nat) (a0 : Int) (a1_0 : Int) (a1_1 : Bool) (a1_2 : Int) (a1_3 : Int) (a1_4 : Int) (a1_5 : Bool) (r : Int) (w : World) (h : vernierref07_Round.f k a0 a1_0 a1_1 a1_2 a1_3 a1_4 a1_5 = some r) :
  Calls Try.prog 42 #[.int .i64 a0, .agg #[.int .i64 a1_0, .bool a1_1, .int .i64 a1_2, .int .u64 a1_3, .int .u64 a1_4, .bool a1_5]] w fun e w' => e = .returned (.int .u64 r) ∧ Below w.heap.size w w' := by
 have hu61 := Try.underlying61
 have HB := Aside0.mk (Below.refl w.heap.size w)
 have H : ((vernierref07_Rounds.f k a0 a1_0 a1_1 a1_2 a1_3 a1_4 a1_5).bind fun bt451 => (some bt451.1)) = some r := h
 clear h
 replace H := Option.bind_eq_some_iff.mp H
 obtain ⟨⟨t451, t452⟩, A30, H⟩ := H
 try dsimp -simprocs only at H
 have A3 := Aside0.mk A30
 clear A30
 obtain rfl := Option.some.inj H
 go_enter Try.func42, Try.ntmps42
 go_wp2_with (first | ((with_reducible refine gD (N := 3) rfl ?_); refine bE3 3 #[.int .i64 a1_0, .bool a1_1, .int .i64 a1_2, .int .u64 a1_3, .int .u64 a1_4, .bool a1_5] 61 ?hr ?_; (case hr => first | (go_simp; done) | (go_simp; rfl)); intro gb450 hg w4 hbox hb; have BK450 := Aside0.mk (hbox); have GW450 := Aside0.mk ((bZ3 hg HB.out)); have GE450 := Aside0.mk ((bZ3 hg HB.out)); replace HB := Aside0.mk (bS3 HB.out hb); clear hb hbox hg; obtain ⟨hcz5_0, hcz5_1, hcz5_2, hcz5_3, hcz5_4, hcz5_5, hfz5_0, hfz5_1, hfz5_2, hfz5_3, hfz5_4, hfz5_5⟩ := cl6 BK450.out) | ((with_reducible refine gX_ 69 10 rfl rfl ?_); refine goesY_ (some 10) Try.func69 #[.int .i64 a0, .agg #[.int .i64 a1_0, .bool a1_1, .int .i64 a1_2, .int .u64 a1_3, .int .u64 a1_4, .bool a1_5]] ?_; (with_reducible refine (vernierref07_Rounds.calls k a0 a1_0 a1_1 a1_2 a1_3 a1_4 a1_5 t451 t452 _ A3.out).mono ?_); rintro e w6 ⟨rfl, hb⟩; refine ⟨_, rfl, ?_⟩; replace BK450 := Aside0.mk (bB3 BK450.out hb); replace HB := Aside0.mk (bS3 HB.out hb); (try clear hb); (try clear hk)))
 go_ret
 exact ⟨eR3, bR3 HB.out⟩
end Go.Proofs.Ytpdpggndhmnggaa.F
