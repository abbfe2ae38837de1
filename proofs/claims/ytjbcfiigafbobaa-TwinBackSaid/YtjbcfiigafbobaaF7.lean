/- Functions of the given program as plain Lean functions, and for each a proof that the program's call comes to just these answers; no further conditions. (Written by a program of this repo out of the translation.) -/
import Derived.Test.YtjbcfiigafbobaaF0
import Derived.Test.YtjbcfiigafbobaaF6
namespace Go.Proofs.Ytjbcfiigafbobaa.F
open Go.RowKit Go.Proofs.YtjbcfiigafbobaaW.PrintWords Go.Proofs.YtjbcfiigafbobaaW.PrintLast Go.Proofs.YtjbcfiigafbobaaW.PrintMore
attribute [local go_sem high] xor_u64 xor_u32 eqErr29 neErr29 eqErrL29 neErrL29
attribute [local go_sem] max2_int min2_int max_two min_two max_three min_three max_four min_four   -- for this text's walks alone
set_option linter.unusedVariables false
set_option linter.unusedSimpArgs false

/-! ### vernierref02_Told: function 68 -/
def vernierref02_Told.f (k : Nat) (l0 : List Int) : Option (Int × Int) := (vernierref00_Shr.f k l0 64).bind fun t139 => ((vernierref00_Word.f k t139).bind fun t142 => ((vernierref00_Word.f k l0).bind fun t143 => (some (t142, t143))))
theorem vernierref02_Told.mono : ∀ a0 k, LeO (vernierref02_Told.f k a0) (vernierref02_Told.f (k + 1) a0) := by
  intro a0 k
  unfold vernierref02_Told.f
  repeat' first
      | (with_reducible exact vernierref00_Shr.mono _ _ _)
      | (with_reducible exact vernierref00_Word.mono _ _)
      | (with_reducible exact LeO.refl _)
      | (with_reducible exact LeO.none _)
      | (with_reducible refine LeO.ite ?_ ?_)
      | (with_reducible refine LeO.bind ?_ (fun _ => ?_))
      | exact vernierref00_Shr.mono _ _ _
      | exact vernierref00_Word.mono _ _
      | exact LeO.none _
      | refine LeO.ite ?_ ?_
      | refine LeO.bind ?_ (fun _ => ?_)
set_option maxHeartbeats 8000000 in
set_option maxRecDepth 100000 in
theorem vernierref02_Told.calls (k : Nat) (A0 : Option Addr) (c0 : Nat) (l0 : List Int) (r1 : Int) (r2 : Int) (w : World) (hr0 : Kd.C (Kd.int .i64) w A0 l0.length l0) (hc0 : l0.length ≤ c0) (h : vernierref02_Told.f k l0 = some (r1, r2)) :
    Calls Try.prog 68 #[.slice A0 l0.length c0] w fun e w' => e = .returned (.agg #[.int .u64 r1, .int .u64 r2]) ∧ Below w.heap.size w w' := by
  have hu25 := Try.underlying25
  have HR0 := Aside0.mk hr0
  have HC0 := Aside0.mk hc0
  clear hr0 hc0
  have HB := Aside0.mk (Below.refl w.heap.size w)
  have H : ((vernierref00_Shr.f k l0 64).bind fun t139 => ((vernierref00_Word.f k t139).bind fun t142 => ((vernierref00_Word.f k l0).bind fun t143 => (some (t142, t143))))) = some (r1, r2) := h
  clear h
  replace H := Option.bind_eq_some_iff.mp H
  obtain ⟨t139, A20, H⟩ := H
  replace H : ((vernierref00_Word.f k t139).bind fun t142 => ((vernierref00_Word.f k l0).bind fun t143 => (some (t142, t143)))) = some (r1, r2) := H
  have A2 := Aside0.mk A20
  clear A20
  replace H := Option.bind_eq_some_iff.mp H
  obtain ⟨t142, A30, H⟩ := H
  replace H : ((vernierref00_Word.f k l0).bind fun t143 => (some (t142, t143))) = some (r1, r2) := H
  have A3 := Aside0.mk A30
  clear A30
  replace H := Option.bind_eq_some_iff.mp H
  obtain ⟨t143, A40, H⟩ := H
  replace H : (some (t142, t143)) = some (r1, r2) := H
  have A4 := Aside0.mk A40
  clear A40
  simp only [Option.some.injEq, Prod.mk.injEq] at H
  obtain ⟨rfl, rfl⟩ := H
  go_enter Try.func68, Try.ntmps68
  go_wp2_with (first | ((with_reducible refine gD (N := 2) rfl ?_); refine bE3 2 #[.int .u64 0, .int .u64 0] 25 ?hr ?_; (case hr => first | (go_simp; done) | (go_simp; rfl)); intro gb138 hg w5 hbox hb; have n0_ := Aside0.mk (bS3 HB.out hb); have n1_ := Aside0.mk (hbox); have n2_ := Aside0.mk ((bZ3 hg HB.out)); have n3_ := Aside0.mk ((bZ3 hg HB.out)); clear HB; have HB := n0_; have BK138 := n1_; have GW138 := n2_; have GE138 := n3_; clear n0_ n1_ n2_ n3_; clear hb hbox hg) | ((with_reducible refine gC (f := 90) rfl ?_); refine goesY_ (some 4) Try.func90 #[.slice A0 l0.length c0, .int .i64 64] ?_; (with_reducible refine (vernierref00_Shr.calls k _ _ l0 64 t139 _ ?side1 ?side2 A2.out).mono ?_); (case side1 => repeat (first | exact (Kd.C_below HR0.out HB.out) | (with_reducible refine Kd.C_alloc ?_ _) | (with_reducible refine Kd.C_drewN ?_ _) | (with_reducible refine Kd.C_drew ?_))); (case side2 => exact HC0.out); rintro e w6 ⟨v140, rfl, ho0, hb⟩; refine ⟨_, rfl, ?_⟩; have n0_ := Aside0.mk (Kd.R_lower ho0 (bZ (by repeat (first | (with_reducible first | exact HB.out | apply pA | apply pN | apply p1 | refine pS ?_ GE138.out) | exact HB.out)))); have n1_ := Aside0.mk (bB3 BK138.out hb); have n2_ := Aside0.mk (bS3 HB.out hb); clear BK138; clear HB; have HO141 := n0_; have BK138 := n1_; have HB := n2_; clear n0_ n1_ n2_; (try clear hb); (try clear hb2); (try clear hk); (try clear hi); (try clear ho0); obtain ⟨Ao7, co7, eo7⟩ := Kd.R_slice HO141.out; subst eo7) | ((with_reducible refine gC (f := 95) rfl ?_); refine goesY_ (some 5) Try.func95 #[.slice Ao7 t139.length co7] ?_; (with_reducible refine (vernierref00_Word.calls k _ _ t139 t142 _ ?side1 ?side2 A3.out).mono ?_); (case side1 => repeat (first | exact (Kd.R_reads' HO141.out).2.2 | (with_reducible refine Kd.C_alloc ?_ _) | (with_reducible refine Kd.C_drewN ?_ _) | (with_reducible refine Kd.C_drew ?_))); (case side2 => exact (Kd.R_reads' HO141.out).2.1); rintro e w' ⟨rfl, ⟨nd, rfl⟩⟩; refine ⟨_, rfl, ?_⟩; (try (rw [drewN_self w6]; generalize hq_ : World.drewN w6 _ = w6; have n0_ : Aside0 (Kd.R (Kd.int .i64) 3 w6 w.heap.size (fun _ => True) (.slice Ao7 t139.length co7) t139) := ⟨by rw [← hq_]; exact (by (with_reducible repeat (first | apply Kd.R_alloc | apply Kd.R_drewN | apply Kd.R_drew)); exact HO141.out)⟩; have n1_ : Aside0 (w6.heap[gb138]? = some (.cells #[.int .u64 0, .int .u64 0] 25 (0, 0))) := ⟨by rw [← hq_]; exact (by (with_reducible repeat (first | refine bN ?_ _ | refine bD ?_ | refine bA ?_ _)); exact BK138.out)⟩; have n2_ : Aside0 (Below w.heap.size w w6) := ⟨by rw [← hq_]; exact (by repeat (first | (with_reducible first | exact HB.out | apply pA | apply pN | apply p1 | refine pS ?_ GE138.out) | exact HB.out))⟩; clear HO141 BK138 HB hq_; have HO141 := n0_; have BK138 := n1_; have HB := n2_; clear n0_ n1_ n2_))) | ((with_reducible refine gC (f := 95) rfl ?_); refine goesY_ (some 7) Try.func95 #[.slice A0 l0.length c0] ?_; (with_reducible refine (vernierref00_Word.calls k _ _ l0 t143 _ ?side1 ?side2 A4.out).mono ?_); (case side1 => repeat (first | exact (Kd.C_below HR0.out HB.out) | (with_reducible refine Kd.C_alloc ?_ _) | (with_reducible refine Kd.C_drewN ?_ _) | (with_reducible refine Kd.C_drew ?_))); (case side2 => exact HC0.out); rintro e w' ⟨rfl, ⟨nd, rfl⟩⟩; refine ⟨_, rfl, ?_⟩; (try (rw [drewN_self w6]; generalize hq_ : World.drewN w6 _ = w6; have n0_ : Aside0 (Kd.R (Kd.int .i64) 3 w6 w.heap.size (fun _ => True) (.slice Ao7 t139.length co7) t139) := ⟨by rw [← hq_]; exact (by (with_reducible repeat (first | apply Kd.R_alloc | apply Kd.R_drewN | apply Kd.R_drew)); exact HO141.out)⟩; have n1_ : Aside0 (w6.heap[gb138]? = some (.cells #[.int .u64 0, .int .u64 0] 25 (0, 0))) := ⟨by rw [← hq_]; exact (by (with_reducible repeat (first | refine bN ?_ _ | refine bD ?_ | refine bA ?_ _)); exact BK138.out)⟩; have n2_ : Aside0 (Below w.heap.size w w6) := ⟨by rw [← hq_]; exact (by repeat (first | (with_reducible first | exact HB.out | apply pA | apply pN | apply p1 | refine pS ?_ GE138.out) | exact HB.out))⟩; clear HO141 BK138 HB hq_; have HO141 := n0_; have BK138 := n1_; have HB := n2_; clear n0_ n1_ n2_)); have hcz8_0 : w6.cell? ⟨gb138, 0, none⟩ = some (.int .u64 0) := (blk_cell BK138.out 0).trans rfl; have hcz8_1 : w6.cell? ⟨gb138, 1, none⟩ = some (.int .u64 0) := (blk_cell BK138.out 1).trans rfl; have hfz8_0 := blk_frozen BK138.out 0; have hfz8_1 := blk_frozen BK138.out 1))
  refine bodyPost_ret (results_cell_row rfl _ _ gb138 25 #[.int .u64 t142, .int .u64 t143] (0, 0) _ rfl (by (with_reducible repeat (first | refine bN ?_ _ | refine bD ?_ | refine bA ?_ _)); refine blk_put (cs := #[.int .u64 t142, .int .u64 0]) ?_ 1 _ rfl; (with_reducible repeat (first | refine bN ?_ _ | refine bD ?_ | refine bA ?_ _)); refine blk_put (cs := #[.int .u64 0, .int .u64 0]) ?_ 0 _ rfl; (with_reducible repeat (first | refine bN ?_ _ | refine bD ?_ | refine bA ?_ _)); exact BK138.out) Try.underlying25 rfl (by kernel_rfl)) rfl ?_
  exact ⟨by first | rfl | (simp [errW_none, errW_some] <;> rfl) | (simp [*, errW_none, errW_some] <;> rfl), by repeat (first | (with_reducible first | exact HB.out | apply pA | apply pN | apply p1 | refine pS ?_ GE138.out) | exact HB.out)⟩

/-! ### vernierref02_Mul: function 24 -/
def vernierref02_Mul.f (k : Nat) (a0 : Int) (a1 : Int) : Option (Int × Int) := (vernierref00_Of.f k a0).bind fun t159 => ((vernierref00_Of.f k a1).bind fun t162 => ((vernierref00_Mul.f k t159 t162).bind fun t165 => ((vernierref02_Told.f k t165).bind fun bt168 => (some (bt168.1, bt168.2)))))
theorem vernierref02_Mul.mono : ∀ a0 a1 k, LeO (vernierref02_Mul.f k a0 a1) (vernierref02_Mul.f (k + 1) a0 a1) := by
  intro a0 a1 k
  unfold vernierref02_Mul.f
  repeat' first
      | (with_reducible exact vernierref00_Mul.mono _ _ _)
      | (with_reducible exact vernierref00_Of.mono _ _)
      | (with_reducible exact vernierref02_Told.mono _ _)
      | (with_reducible exact LeO.refl _)
      | (with_reducible exact LeO.none _)
      | (with_reducible refine LeO.ite ?_ ?_)
      | (with_reducible refine LeO.bind ?_ (fun _ => ?_))
      | exact vernierref00_Mul.mono _ _ _
      | exact vernierref00_Of.mono _ _
      | exact vernierref02_Told.mono _ _
      | exact LeO.none _
      | refine LeO.ite ?_ ?_
      | refine LeO.bind ?_ (fun _ => ?_)
set_option maxHeartbeats 8000000 in
set_option maxRecDepth 100000 in
theorem vernierref02_Mul.calls (k : Nat) (a0 : Int) (a1 : Int) (r1 : Int) (r2 : Int) (w : World) (h : vernierref02_Mul.f k a0 a1 = some (r1, r2)) :
    Calls Try.prog 24 #[.int .u64 a0, .int .u64 a1] w fun e w' => e = .returned (.agg #[.int .u64 r1, .int .u64 r2]) ∧ Below w.heap.size w w' := by
  have hu25 := Try.underlying25
  have HB := Aside0.mk (Below.refl w.heap.size w)
  have H : ((vernierref00_Of.f k a0).bind fun t159 => ((vernierref00_Of.f k a1).bind fun t162 => ((vernierref00_Mul.f k t159 t162).bind fun t165 => ((vernierref02_Told.f k t165).bind fun bt168 => (some (bt168.1, bt168.2)))))) = some (r1, r2) := h
  clear h
  replace H := Option.bind_eq_some_iff.mp H
  obtain ⟨t159, A30, H⟩ := H
  replace H : ((vernierref00_Of.f k a1).bind fun t162 => ((vernierref00_Mul.f k t159 t162).bind fun t165 => ((vernierref02_Told.f k t165).bind fun bt168 => (some (bt168.1, bt168.2))))) = some (r1, r2) := H
  have A3 := Aside0.mk A30
  clear A30
  replace H := Option.bind_eq_some_iff.mp H
  obtain ⟨t162, A40, H⟩ := H
  replace H : ((vernierref00_Mul.f k t159 t162).bind fun t165 => ((vernierref02_Told.f k t165).bind fun bt168 => (some (bt168.1, bt168.2)))) = some (r1, r2) := H
  have A4 := Aside0.mk A40
  clear A40
  replace H := Option.bind_eq_some_iff.mp H
  obtain ⟨t165, A50, H⟩ := H
  replace H : ((vernierref02_Told.f k t165).bind fun bt168 => (some (bt168.1, bt168.2))) = some (r1, r2) := H
  have A5 := Aside0.mk A50
  clear A50
  replace H := Option.bind_eq_some_iff.mp H
  obtain ⟨⟨t168, t169⟩, A60, H⟩ := H
  replace H : (some (t168, t169)) = some (r1, r2) := H
  have A6 := Aside0.mk A60
  clear A60
  simp only [Option.some.injEq, Prod.mk.injEq] at H
  obtain ⟨rfl, rfl⟩ := H
  go_enter Try.func24, Try.ntmps24
  go_wp2_with (first | ((with_reducible refine gD (N := 4) rfl ?_); refine bE3 4 #[.int .u64 0, .int .u64 0] 25 ?hr ?_; (case hr => first | (go_simp; done) | (go_simp; rfl)); intro gb158 hg w7 hbox hb; have n0_ := Aside0.mk (bS3 HB.out hb); have n1_ := Aside0.mk (hbox); have n2_ := Aside0.mk ((bZ3 hg HB.out)); have n3_ := Aside0.mk ((bZ3 hg HB.out)); clear HB; have HB := n0_; have BK158 := n1_; have GW158 := n2_; have GE158 := n3_; clear n0_ n1_ n2_ n3_; clear hb hbox hg) | ((with_reducible refine gC (f := 70) rfl ?_); refine goesY_ (some 6) Try.func70 #[.int .u64 a0] ?_; (with_reducible refine (vernierref00_Of.calls k a0 t159 _ A3.out).mono ?_); rintro e w8 ⟨v160, rfl, ho0, hb⟩; refine ⟨_, rfl, ?_⟩; have n0_ := Aside0.mk (Kd.R_lower ho0 (bZ (by repeat (first | (with_reducible first | exact HB.out | apply pA | apply pN | apply p1 | refine pS ?_ GE158.out) | exact HB.out)))); have n1_ := Aside0.mk (bB3 BK158.out hb); have n2_ := Aside0.mk (bS3 HB.out hb); clear BK158; clear HB; have HO161 := n0_; have BK158 := n1_; have HB := n2_; clear n0_ n1_ n2_; (try clear hb); (try clear hb2); (try clear hk); (try clear hi); (try clear ho0)) | ((with_reducible refine gC (f := 70) rfl ?_); refine goesY_ (some 8) Try.func70 #[.int .u64 a1] ?_; (with_reducible refine (vernierref00_Of.calls k a1 t162 _ A4.out).mono ?_); rintro e w9 ⟨v163, rfl, ho0, hb⟩; refine ⟨_, rfl, ?_⟩; have n0_ := Aside0.mk (Kd.R_elder' (by (with_reducible repeat (first | apply Kd.R_alloc | apply Kd.R_drewN | apply Kd.R_drew)); exact HO161.out) (Kd.R_base ho0) hb); have n1_ := Aside0.mk (Kd.R_lower (Kd.R_new' ho0 (Kd.R_lt (by (with_reducible repeat (first | apply Kd.R_alloc | apply Kd.R_drewN | apply Kd.R_drew)); exact HO161.out))) (bZ (by repeat (first | (with_reducible first | exact HB.out | apply pA | apply pN | apply p1 | refine pS ?_ GE158.out) | exact HB.out)))); have n2_ := Aside0.mk (bB3 BK158.out hb); have n3_ := Aside0.mk (bS3 HB.out hb); clear HO161; clear BK158; clear HB; have HO161 := n0_; have HO164 := n1_; have BK158 := n2_; have HB := n3_; clear n0_ n1_ n2_ n3_; (try clear hb); (try clear hb2); (try clear hk); (try clear hi); (try clear ho0); obtain ⟨Ao10, co10, eo10⟩ := Kd.R_slice HO161.out; subst eo10; obtain ⟨Ao11, co11, eo11⟩ := Kd.R_slice HO164.out; subst eo11) | ((with_reducible refine gC (f := 69) rfl ?_); refine goesY_ (some 9) Try.func69 #[.slice Ao10 t159.length co10, .slice Ao11 t162.length co11] ?_; (with_reducible refine (vernierref00_Mul.calls k _ _ t159 _ _ t162 t165 _ ?side1 ?side2 ?side3 ?side4 A5.out).mono ?_); (case side1 => repeat (first | exact (Kd.R_reads' HO161.out).2.2 | (with_reducible refine Kd.C_alloc ?_ _) | (with_reducible refine Kd.C_drewN ?_ _) | (with_reducible refine Kd.C_drew ?_))); (case side2 => exact (Kd.R_reads' HO161.out).2.1); (case side3 => repeat (first | exact (Kd.R_reads' HO164.out).2.2 | (with_reducible refine Kd.C_alloc ?_ _) | (with_reducible refine Kd.C_drewN ?_ _) | (with_reducible refine Kd.C_drew ?_))); (case side4 => exact (Kd.R_reads' HO164.out).2.1); rintro e w12 ⟨v166, rfl, ho0, hb⟩; refine ⟨_, rfl, ?_⟩; have n0_ := Aside0.mk (Kd.R_elder' (by (with_reducible repeat (first | apply Kd.R_alloc | apply Kd.R_drewN | apply Kd.R_drew)); exact HO161.out) (Kd.R_base ho0) hb); have n1_ := Aside0.mk (Kd.R_elder' (by (with_reducible repeat (first | apply Kd.R_alloc | apply Kd.R_drewN | apply Kd.R_drew)); exact HO164.out) (Kd.R_base ho0) hb); have n2_ := Aside0.mk (Kd.R_lower (Kd.R_new' (Kd.R_new' ho0 (Kd.R_lt (by (with_reducible repeat (first | apply Kd.R_alloc | apply Kd.R_drewN | apply Kd.R_drew)); exact HO161.out))) (Kd.R_lt (by (with_reducible repeat (first | apply Kd.R_alloc | apply Kd.R_drewN | apply Kd.R_drew)); exact HO164.out))) (bZ (by repeat (first | (with_reducible first | exact HB.out | apply pA | apply pN | apply p1 | refine pS ?_ GE158.out) | exact HB.out)))); have n3_ := Aside0.mk (bB3 BK158.out hb); have n4_ := Aside0.mk (bS3 HB.out hb); clear HO161; clear HO164; clear BK158; clear HB; have HO161 := n0_; have HO164 := n1_; have HO167 := n2_; have BK158 := n3_; have HB := n4_; clear n0_ n1_ n2_ n3_ n4_; (try clear hb); (try clear hb2); (try clear hk); (try clear hi); (try clear ho0); obtain ⟨Ao13, co13, eo13⟩ := Kd.R_slice HO167.out; subst eo13) | ((with_reducible refine gC (f := 68) rfl ?_); refine goesY_ (some 10) Try.func68 #[.slice Ao13 t165.length co13] ?_; (with_reducible refine (vernierref02_Told.calls k _ _ t165 t168 t169 _ ?side1 ?side2 A6.out).mono ?_); (case side1 => repeat (first | exact (Kd.R_reads' HO167.out).2.2 | (with_reducible refine Kd.C_alloc ?_ _) | (with_reducible refine Kd.C_drewN ?_ _) | (with_reducible refine Kd.C_drew ?_))); (case side2 => exact (Kd.R_reads' HO167.out).2.1); rintro e w14 ⟨rfl, hb⟩; refine ⟨_, rfl, ?_⟩; have n0_ := Aside0.mk (Kd.R_below (by (with_reducible repeat (first | apply Kd.R_alloc | apply Kd.R_drewN | apply Kd.R_drew)); exact HO161.out) hb); have n1_ := Aside0.mk (Kd.R_below (by (with_reducible repeat (first | apply Kd.R_alloc | apply Kd.R_drewN | apply Kd.R_drew)); exact HO164.out) hb); have n2_ := Aside0.mk (Kd.R_below (by (with_reducible repeat (first | apply Kd.R_alloc | apply Kd.R_drewN | apply Kd.R_drew)); exact HO167.out) hb); have n3_ := Aside0.mk (bB3 BK158.out hb); have n4_ := Aside0.mk (bS3 HB.out hb); clear HO161; clear HO164; clear HO167; clear BK158; clear HB; have HO161 := n0_; have HO164 := n1_; have HO167 := n2_; have BK158 := n3_; have HB := n4_; clear n0_ n1_ n2_ n3_ n4_; (try clear hb); (try clear hb2); (try clear hk); (try clear hi); have hcz15_0 : w14.cell? ⟨gb158, 0, none⟩ = some (.int .u64 0) := (blk_cell BK158.out 0).trans rfl; have hcz15_1 : w14.cell? ⟨gb158, 1, none⟩ = some (.int .u64 0) := (blk_cell BK158.out 1).trans rfl; have hfz15_0 := blk_frozen BK158.out 0; have hfz15_1 := blk_frozen BK158.out 1))
  refine bodyPost_ret (results_cell_row rfl _ _ gb158 25 #[.int .u64 t168, .int .u64 t169] (0, 0) _ rfl (by (with_reducible repeat (first | refine bN ?_ _ | refine bD ?_ | refine bA ?_ _)); refine blk_put (cs := #[.int .u64 t168, .int .u64 0]) ?_ 1 _ rfl; (with_reducible repeat (first | refine bN ?_ _ | refine bD ?_ | refine bA ?_ _)); refine blk_put (cs := #[.int .u64 0, .int .u64 0]) ?_ 0 _ rfl; (with_reducible repeat (first | refine bN ?_ _ | refine bD ?_ | refine bA ?_ _)); exact BK158.out) Try.underlying25 rfl (by kernel_rfl)) rfl ?_
  exact ⟨by first | rfl | (simp [errW_none, errW_some] <;> rfl) | (simp [*, errW_none, errW_some] <;> rfl), by repeat (first | (with_reducible first | exact HB.out | apply pA | apply pN | apply p1 | refine pS ?_ GE158.out) | exact HB.out)⟩

/-! ### vernierref02_Of: function 75 -/
def vernierref02_Of.f (k : Nat) (a0_0 : Int) (a0_1 : Int) : Option (List Int) := (vernierref00_Of.f k a0_0).bind fun t245 => ((vernierref00_Shl.f k t245 64).bind fun t248 => ((vernierref00_Of.f k a0_1).bind fun t251 => ((vernierref00_Add.f k t248 t251).bind fun t254 => (some t254))))
theorem vernierref02_Of.mono : ∀ a0 a1 k, LeO (vernierref02_Of.f k a0 a1) (vernierref02_Of.f (k + 1) a0 a1) := by
  intro a0 a1 k
  unfold vernierref02_Of.f
  repeat' first
      | (with_reducible exact vernierref00_Add.mono _ _ _)
      | (with_reducible exact vernierref00_Of.mono _ _)
      | (with_reducible exact vernierref00_Shl.mono _ _ _)
      | (with_reducible exact LeO.refl _)
      | (with_reducible exact LeO.none _)
      | (with_reducible refine LeO.ite ?_ ?_)
      | (with_reducible refine LeO.bind ?_ (fun _ => ?_))
      | exact vernierref00_Add.mono _ _ _
      | exact vernierref00_Of.mono _ _
      | exact vernierref00_Shl.mono _ _ _
      | exact LeO.none _
      | refine LeO.ite ?_ ?_
      | refine LeO.bind ?_ (fun _ => ?_)
set_option maxHeartbeats 8000000 in
set_option maxRecDepth 100000 in
theorem vernierref02_Of.calls (k : Nat) (a0_0 : Int) (a0_1 : Int) (r : List Int) (w : World) (h : vernierref02_Of.f k a0_0 a0_1 = some r) :
    Calls Try.prog 75 #[.agg #[.int .u64 a0_0, .int .u64 a0_1]] w fun e w' => ∃ v0_ : Value, e = .returned (v0_) ∧ Kd.R (Kd.int .i64) 3 w' w.heap.size (fun _ => True) v0_ r ∧ Below w.heap.size w w' := by
  have hu25 := Try.underlying25
  have HB := Aside0.mk (Below.refl w.heap.size w)
  have H : ((vernierref00_Of.f k a0_0).bind fun t245 => ((vernierref00_Shl.f k t245 64).bind fun t248 => ((vernierref00_Of.f k a0_1).bind fun t251 => ((vernierref00_Add.f k t248 t251).bind fun t254 => (some t254))))) = some r := h
  clear h
  replace H := Option.bind_eq_some_iff.mp H
  obtain ⟨t245, A20, H⟩ := H
  replace H : ((vernierref00_Shl.f k t245 64).bind fun t248 => ((vernierref00_Of.f k a0_1).bind fun t251 => ((vernierref00_Add.f k t248 t251).bind fun t254 => (some t254)))) = some r := H
  have A2 := Aside0.mk A20
  clear A20
  replace H := Option.bind_eq_some_iff.mp H
  obtain ⟨t248, A30, H⟩ := H
  replace H : ((vernierref00_Of.f k a0_1).bind fun t251 => ((vernierref00_Add.f k t248 t251).bind fun t254 => (some t254))) = some r := H
  have A3 := Aside0.mk A30
  clear A30
  replace H := Option.bind_eq_some_iff.mp H
  obtain ⟨t251, A40, H⟩ := H
  replace H : ((vernierref00_Add.f k t248 t251).bind fun t254 => (some t254)) = some r := H
  have A4 := Aside0.mk A40
  clear A40
  replace H := Option.bind_eq_some_iff.mp H
  obtain ⟨t254, A50, H⟩ := H
  replace H : (some t254) = some r := H
  have A5 := Aside0.mk A50
  clear A50
  obtain rfl := Option.some.inj H
  go_enter Try.func75, Try.ntmps75
  go_wp2_with (first | ((with_reducible refine gD (N := 1) rfl ?_); refine bE3 1 #[.int .u64 a0_0, .int .u64 a0_1] 25 ?hr ?_; (case hr => first | (go_simp; done) | (go_simp; rfl)); intro gb244 hg w6 hbox hb; have n0_ := Aside0.mk (bS3 HB.out hb); have n1_ := Aside0.mk (hbox); have n2_ := Aside0.mk ((bZ3 hg HB.out)); have n3_ := Aside0.mk ((bZ3 hg HB.out)); clear HB; have HB := n0_; have BK244 := n1_; have GW244 := n2_; have GE244 := n3_; clear n0_ n1_ n2_ n3_; clear hb hbox hg; have hcz7_0 : w6.cell? ⟨gb244, 0, none⟩ = some (.int .u64 a0_0) := (blk_cell BK244.out 0).trans rfl; have hcz7_1 : w6.cell? ⟨gb244, 1, none⟩ = some (.int .u64 a0_1) := (blk_cell BK244.out 1).trans rfl; have hfz7_0 := blk_frozen BK244.out 0; have hfz7_1 := blk_frozen BK244.out 1) | ((with_reducible refine gC (f := 70) rfl ?_); refine goesY_ (some 6) Try.func70 #[.int .u64 a0_0] ?_; (with_reducible refine (vernierref00_Of.calls k a0_0 t245 _ A2.out).mono ?_); rintro e w8 ⟨v246, rfl, ho0, hb⟩; refine ⟨_, rfl, ?_⟩; have n0_ := Aside0.mk (Kd.R_lower ho0 (bZ (by repeat (first | (with_reducible first | exact HB.out | apply pA | apply pN | apply p1 | refine pS ?_ GE244.out) | exact HB.out)))); have n1_ := Aside0.mk (bB3 BK244.out hb); have n2_ := Aside0.mk (bS3 HB.out hb); clear BK244; clear HB; have HO247 := n0_; have BK244 := n1_; have HB := n2_; clear n0_ n1_ n2_; (try clear hb); (try clear hb2); (try clear hk); (try clear hi); (try clear ho0); obtain ⟨Ao9, co9, eo9⟩ := Kd.R_slice HO247.out; subst eo9) | ((with_reducible refine gC (f := 92) rfl ?_); refine goesY_ (some 7) Try.func92 #[.slice Ao9 t245.length co9, .int .i64 64] ?_; (with_reducible refine (vernierref00_Shl.calls k _ _ t245 64 t248 _ ?side1 ?side2 A3.out).mono ?_); (case side1 => repeat (first | exact (Kd.R_reads' HO247.out).2.2 | (with_reducible refine Kd.C_alloc ?_ _) | (with_reducible refine Kd.C_drewN ?_ _) | (with_reducible refine Kd.C_drew ?_))); (case side2 => exact (Kd.R_reads' HO247.out).2.1); rintro e w10 ⟨v249, rfl, ho0, hb⟩; refine ⟨_, rfl, ?_⟩; have n0_ := Aside0.mk (Kd.R_elder' (by (with_reducible repeat (first | apply Kd.R_alloc | apply Kd.R_drewN | apply Kd.R_drew)); exact HO247.out) (Kd.R_base ho0) hb); have n1_ := Aside0.mk (Kd.R_lower (Kd.R_new' ho0 (Kd.R_lt (by (with_reducible repeat (first | apply Kd.R_alloc | apply Kd.R_drewN | apply Kd.R_drew)); exact HO247.out))) (bZ (by repeat (first | (with_reducible first | exact HB.out | apply pA | apply pN | apply p1 | refine pS ?_ GE244.out) | exact HB.out)))); have n2_ := Aside0.mk (bB3 BK244.out hb); have n3_ := Aside0.mk (bS3 HB.out hb); clear HO247; clear BK244; clear HB; have HO247 := n0_; have HO250 := n1_; have BK244 := n2_; have HB := n3_; clear n0_ n1_ n2_ n3_; (try clear hb); (try clear hb2); (try clear hk); (try clear hi); (try clear ho0); have hcz11_0 : w10.cell? ⟨gb244, 0, none⟩ = some (.int .u64 a0_0) := (blk_cell BK244.out 0).trans rfl; have hcz11_1 : w10.cell? ⟨gb244, 1, none⟩ = some (.int .u64 a0_1) := (blk_cell BK244.out 1).trans rfl; have hfz11_0 := blk_frozen BK244.out 0; have hfz11_1 := blk_frozen BK244.out 1) | ((with_reducible refine gC (f := 70) rfl ?_); refine goesY_ (some 11) Try.func70 #[.int .u64 a0_1] ?_; (with_reducible refine (vernierref00_Of.calls k a0_1 t251 _ A4.out).mono ?_); rintro e w12 ⟨v252, rfl, ho0, hb⟩; refine ⟨_, rfl, ?_⟩; have n0_ := Aside0.mk (Kd.R_elder' (by (with_reducible repeat (first | apply Kd.R_alloc | apply Kd.R_drewN | apply Kd.R_drew)); exact HO247.out) (Kd.R_base ho0) hb); have n1_ := Aside0.mk (Kd.R_elder' (by (with_reducible repeat (first | apply Kd.R_alloc | apply Kd.R_drewN | apply Kd.R_drew)); exact HO250.out) (Kd.R_base ho0) hb); have n2_ := Aside0.mk (Kd.R_lower (Kd.R_new' (Kd.R_new' ho0 (Kd.R_lt (by (with_reducible repeat (first | apply Kd.R_alloc | apply Kd.R_drewN | apply Kd.R_drew)); exact HO247.out))) (Kd.R_lt (by (with_reducible repeat (first | apply Kd.R_alloc | apply Kd.R_drewN | apply Kd.R_drew)); exact HO250.out))) (bZ (by repeat (first | (with_reducible first | exact HB.out | apply pA | apply pN | apply p1 | refine pS ?_ GE244.out) | exact HB.out)))); have n3_ := Aside0.mk (bB3 BK244.out hb); have n4_ := Aside0.mk (bS3 HB.out hb); clear HO247; clear HO250; clear BK244; clear HB; have HO247 := n0_; have HO250 := n1_; have HO253 := n2_; have BK244 := n3_; have HB := n4_; clear n0_ n1_ n2_ n3_ n4_; (try clear hb); (try clear hb2); (try clear hk); (try clear hi); (try clear ho0); obtain ⟨Ao13, co13, eo13⟩ := Kd.R_slice HO250.out; subst eo13; obtain ⟨Ao14, co14, eo14⟩ := Kd.R_slice HO253.out; subst eo14) | ((with_reducible refine gC (f := 78) rfl ?_); refine goesY_ (some 12) Try.func78 #[.slice Ao13 t248.length co13, .slice Ao14 t251.length co14] ?_; (with_reducible refine (vernierref00_Add.calls k _ _ t248 _ _ t251 t254 _ ?side1 ?side2 ?side3 ?side4 A5.out).mono ?_); (case side1 => repeat (first | exact (Kd.R_reads' HO250.out).2.2 | (with_reducible refine Kd.C_alloc ?_ _) | (with_reducible refine Kd.C_drewN ?_ _) | (with_reducible refine Kd.C_drew ?_))); (case side2 => exact (Kd.R_reads' HO250.out).2.1); (case side3 => repeat (first | exact (Kd.R_reads' HO253.out).2.2 | (with_reducible refine Kd.C_alloc ?_ _) | (with_reducible refine Kd.C_drewN ?_ _) | (with_reducible refine Kd.C_drew ?_))); (case side4 => exact (Kd.R_reads' HO253.out).2.1); rintro e w15 ⟨v255, rfl, ho0, hb⟩; refine ⟨_, rfl, ?_⟩; have n0_ := Aside0.mk (Kd.R_elder' (by (with_reducible repeat (first | apply Kd.R_alloc | apply Kd.R_drewN | apply Kd.R_drew)); exact HO247.out) (Kd.R_base ho0) hb); have n1_ := Aside0.mk (Kd.R_elder' (by (with_reducible repeat (first | apply Kd.R_alloc | apply Kd.R_drewN | apply Kd.R_drew)); exact HO250.out) (Kd.R_base ho0) hb); have n2_ := Aside0.mk (Kd.R_elder' (by (with_reducible repeat (first | apply Kd.R_alloc | apply Kd.R_drewN | apply Kd.R_drew)); exact HO253.out) (Kd.R_base ho0) hb); have n3_ := Aside0.mk (Kd.R_lower (Kd.R_new' (Kd.R_new' (Kd.R_new' ho0 (Kd.R_lt (by (with_reducible repeat (first | apply Kd.R_alloc | apply Kd.R_drewN | apply Kd.R_drew)); exact HO247.out))) (Kd.R_lt (by (with_reducible repeat (first | apply Kd.R_alloc | apply Kd.R_drewN | apply Kd.R_drew)); exact HO250.out))) (Kd.R_lt (by (with_reducible repeat (first | apply Kd.R_alloc | apply Kd.R_drewN | apply Kd.R_drew)); exact HO253.out))) (bZ (by repeat (first | (with_reducible first | exact HB.out | apply pA | apply pN | apply p1 | refine pS ?_ GE244.out) | exact HB.out)))); have n4_ := Aside0.mk (bB3 BK244.out hb); have n5_ := Aside0.mk (bS3 HB.out hb); clear HO247; clear HO250; clear HO253; clear BK244; clear HB; have HO247 := n0_; have HO250 := n1_; have HO253 := n2_; have HO256 := n3_; have BK244 := n4_; have HB := n5_; clear n0_ n1_ n2_ n3_ n4_ n5_; (try clear hb); (try clear hb2); (try clear hk); (try clear hi); (try clear ho0)))
  go_ret
  exact ⟨_, by first | rfl | (simp [errW_none, errW_some] <;> rfl) | (simp [*, errW_none, errW_some] <;> rfl), by (with_reducible repeat (first | apply Kd.R_alloc | apply Kd.R_drewN | apply Kd.R_drew)); exact Kd.R_mono HO256.out (fun _ hk => trivial), by repeat (first | (with_reducible first | exact HB.out | apply pA | apply pN | apply p1 | refine pS ?_ GE244.out) | exact HB.out)⟩

/-! ### vernierref02_Cmp: function 32 -/
def vernierref02_Cmp.f (k : Nat) (a0_0 : Int) (a0_1 : Int) (a1_0 : Int) (a1_1 : Int) : Option (Int) := (vernierref02_Of.f k a0_0 a0_1).bind fun t259 => ((vernierref02_Of.f k a1_0 a1_1).bind fun t262 => ((vernierref00_Cmp.f k t259 t262).bind fun t265 => (some t265)))
theorem vernierref02_Cmp.mono : ∀ a0 a1 a2 a3 k, LeO (vernierref02_Cmp.f k a0 a1 a2 a3) (vernierref02_Cmp.f (k + 1) a0 a1 a2 a3) := by
  intro a0 a1 a2 a3 k
  unfold vernierref02_Cmp.f
  repeat' first
      | (with_reducible exact vernierref00_Cmp.mono _ _ _)
      | (with_reducible exact vernierref02_Of.mono _ _ _)
      | (with_reducible exact LeO.refl _)
      | (with_reducible exact LeO.none _)
      | (with_reducible refine LeO.ite ?_ ?_)
      | (with_reducible refine LeO.bind ?_ (fun _ => ?_))
      | exact vernierref00_Cmp.mono _ _ _
      | exact vernierref02_Of.mono _ _ _
      | exact LeO.none _
      | refine LeO.ite ?_ ?_
      | refine LeO.bind ?_ (fun _ => ?_)
set_option maxHeartbeats 8000000 in
set_option maxRecDepth 100000 in
theorem vernierref02_Cmp.calls (k : Nat) (a0_0 : Int) (a0_1 : Int) (a1_0 : Int) (a1_1 : Int) (r : Int) (w : World) (h : vernierref02_Cmp.f k a0_0 a0_1 a1_0 a1_1 = some r) :
    Calls Try.prog 32 #[.agg #[.int .u64 a0_0, .int .u64 a0_1], .agg #[.int .u64 a1_0, .int .u64 a1_1]] w fun e w' => e = .returned (.int .i64 r) ∧ Below w.heap.size w w' := by
  have hu25 := Try.underlying25
  have HB := Aside0.mk (Below.refl w.heap.size w)
  have H : ((vernierref02_Of.f k a0_0 a0_1).bind fun t259 => ((vernierref02_Of.f k a1_0 a1_1).bind fun t262 => ((vernierref00_Cmp.f k t259 t262).bind fun t265 => (some t265)))) = some r := h
  clear h
  replace H := Option.bind_eq_some_iff.mp H
  obtain ⟨t259, A30, H⟩ := H
  replace H : ((vernierref02_Of.f k a1_0 a1_1).bind fun t262 => ((vernierref00_Cmp.f k t259 t262).bind fun t265 => (some t265))) = some r := H
  have A3 := Aside0.mk A30
  clear A30
  replace H := Option.bind_eq_some_iff.mp H
  obtain ⟨t262, A40, H⟩ := H
  replace H : ((vernierref00_Cmp.f k t259 t262).bind fun t265 => (some t265)) = some r := H
  have A4 := Aside0.mk A40
  clear A40
  replace H := Option.bind_eq_some_iff.mp H
  obtain ⟨t265, A50, H⟩ := H
  replace H : (some t265) = some r := H
  have A5 := Aside0.mk A50
  clear A50
  obtain rfl := Option.some.inj H
  go_enter Try.func32, Try.ntmps32
  try go_wp2_with (first | ((with_reducible refine gD (N := 2) rfl ?_); refine bE3 2 #[.int .u64 a0_0, .int .u64 a0_1] 25 ?hr ?_; (case hr => first | (go_simp; done) | (go_simp; rfl)); intro gb257 hg w6 hbox hb; have n0_ := Aside0.mk (bS3 HB.out hb); have n1_ := Aside0.mk (hbox); have n2_ := Aside0.mk ((bZ3 hg HB.out)); have n3_ := Aside0.mk ((bZ3 hg HB.out)); clear HB; have HB := n0_; have BK257 := n1_; have GW257 := n2_; have GE257 := n3_; clear n0_ n1_ n2_ n3_; clear hb hbox hg) | ((with_reducible refine gD (N := 3) rfl ?_); refine bE3 3 #[.int .u64 a1_0, .int .u64 a1_1] 25 ?hr ?_; (case hr => first | (go_simp; done) | (go_simp; rfl)); intro gb258 hg w7 hbox hb; have n0_ := Aside0.mk (bB3 BK257.out hb); have n1_ := Aside0.mk (bS3 HB.out hb); have n2_ := Aside0.mk (hbox); have n3_ := Aside0.mk ((bZ3 hg HB.out)); have n4_ := Aside0.mk ((bZ3 hg HB.out)); have n5_ := Aside0.mk ((bL3 hg BK257.out)); have n6_ := Aside0.mk ((bG3 hg BK257.out)); clear BK257; clear HB; have BK257 := n0_; have HB := n1_; have BK258 := n2_; have GW258 := n3_; have GE258 := n4_; have NB257_258 := n5_; have NB258_257 := n6_; clear n0_ n1_ n2_ n3_ n4_ n5_ n6_; clear hb hbox hg))
  have n0_ := Aside0.mk (bD BK257.out)
  have n1_ := Aside0.mk (bD BK258.out)
  have n2_ := Aside0.mk (p1 HB.out)
  clear BK257
  clear BK258
  clear HB
  have BK257 := n0_
  have BK258 := n1_
  have HB := n2_
  clear n0_ n1_ n2_
  refine start_ (n := 6) (S := fun w' => w'.cell? ⟨gb257, 0, none⟩ = some (.int .u64 a0_0) ∧ w'.cell? ⟨gb257, 1, none⟩ = some (.int .u64 a0_1) ∧ w'.cell? ⟨gb258, 0, none⟩ = some (.int .u64 a1_0) ∧ w'.cell? ⟨gb258, 1, none⟩ = some (.int .u64 a1_1)) (ds := []) #[false, false, false, false, false, false] (by kernel_rfl) rfl rfl ⟨(blk_cell BK257.out 0).trans rfl, (blk_cell BK257.out 1).trans rfl, (blk_cell BK258.out 0).trans rfl, (blk_cell BK258.out 1).trans rfl⟩ (fun hHeld => ?_)
  generalize w7.drew = w8 at BK257 BK258 HB hHeld ⊢
  refine take_ (i := 0) (N := some 5) (v := ?_) (a' := ?_) #[true, false, false, false, false, false] rfl rfl (by kernel_rfl) (fun _ _ _ h => h) (Or.inl ⟨by rfl, ?_⟩) hHeld ?_ ?_
  rotate_left
  · rintro w' ⟨s0, s1, s2, s3⟩
    go_simp
    with_reducible rfl
  rotate_left
  · simp only [Act.put, List.setIfInBounds_toArray, List.set_cons_zero, List.set_cons_succ, i64_w, i32_w]
    rfl
  refine take_ (i := 2) (N := some 7) (v := ?_) (a' := ?_) #[true, false, true, false, false, false] rfl rfl (by kernel_rfl) (fun _ _ _ h => h) (Or.inl ⟨by rfl, ?_⟩) hHeld ?_ ?_
  rotate_left
  · rintro w' ⟨s0, s1, s2, s3⟩
    go_simp
    with_reducible rfl
  rotate_left
  · simp only [Act.put, List.setIfInBounds_toArray, List.set_cons_zero, List.set_cons_succ, i64_w, i32_w]
    rfl
  refine one_ (i := 1) (N := some 6) #[true, true, true, false, false, false] rfl rfl (by kernel_rfl) (by decide) (fun K hK => ?_)
  refine goes_ Try.func75 (by kernel_rfl) rfl #[.agg #[.int .u64 a0_0, .int .u64 a0_1]] (by rfl) rfl rfl (by (try simp only [List.map_toArray, List.map_cons, List.map_nil]); first | done | rfl | (simp only [List.length_drop, List.length_take]; rfl)) ?_
  with_reducible refine (vernierref02_Of.calls k a0_0 a0_1 t259 _ A3.out).mono ?_
  rintro e w9 ⟨v260, rfl, ho0, hb⟩
  refine ⟨_, rfl, ?_⟩
  have n0_ := Aside0.mk (Kd.R_lower ho0 (bZ (by repeat (first | (with_reducible first | exact HB.out | apply pA | apply pN | apply p1 | refine pS ?_ GE257.out | refine pS ?_ GE258.out) | exact HB.out))))
  have n1_ := Aside0.mk (bB3 BK257.out hb)
  have n2_ := Aside0.mk (bB3 BK258.out hb)
  have n3_ := Aside0.mk (bS3 HB.out hb)
  clear BK257
  clear BK258
  clear HB
  have HO261 := n0_
  have BK257 := n1_
  have BK258 := n2_
  have HB := n3_
  clear n0_ n1_ n2_ n3_
  (try clear hb)
  (try clear hb2)
  (try clear hk)
  (try clear hi)
  (try clear ho0)
  refine hK.out _ _ ⟨(blk_cell BK257.out 0).trans rfl, (blk_cell BK257.out 1).trans rfl, (blk_cell BK258.out 0).trans rfl, (blk_cell BK258.out 1).trans rfl⟩ (fun hHeld => ?_)
  clear hK K
  refine norm_ (a' := ?_) ?_ ?_
  rotate_left
  · show Act.put _ (some 6) _ = _
    simp only [Act.put, List.setIfInBounds_toArray, List.set_cons_zero, List.set_cons_succ, i64_w, i32_w]
    rfl
  refine one_ (i := 3) (N := some 8) #[true, true, true, true, false, false] rfl rfl (by kernel_rfl) (by decide) (fun K hK => ?_)
  refine goes_ Try.func75 (by kernel_rfl) rfl #[.agg #[.int .u64 a1_0, .int .u64 a1_1]] (by rfl) rfl rfl (by (try simp only [List.map_toArray, List.map_cons, List.map_nil]); first | done | rfl | (simp only [List.length_drop, List.length_take]; rfl)) ?_
  with_reducible refine (vernierref02_Of.calls k a1_0 a1_1 t262 _ A4.out).mono ?_
  rintro e w10 ⟨v263, rfl, ho0, hb⟩
  refine ⟨_, rfl, ?_⟩
  have n0_ := Aside0.mk (Kd.R_elder' (by (with_reducible repeat (first | apply Kd.R_alloc | apply Kd.R_drewN | apply Kd.R_drew)); exact HO261.out) (Kd.R_base ho0) hb)
  have n1_ := Aside0.mk (Kd.R_lower (Kd.R_new' ho0 (Kd.R_lt (by (with_reducible repeat (first | apply Kd.R_alloc | apply Kd.R_drewN | apply Kd.R_drew)); exact HO261.out))) (bZ (by repeat (first | (with_reducible first | exact HB.out | apply pA | apply pN | apply p1 | refine pS ?_ GE257.out | refine pS ?_ GE258.out) | exact HB.out))))
  have n2_ := Aside0.mk (bB3 BK257.out hb)
  have n3_ := Aside0.mk (bB3 BK258.out hb)
  have n4_ := Aside0.mk (bS3 HB.out hb)
  clear HO261
  clear BK257
  clear BK258
  clear HB
  have HO261 := n0_
  have HO264 := n1_
  have BK257 := n2_
  have BK258 := n3_
  have HB := n4_
  clear n0_ n1_ n2_ n3_ n4_
  (try clear hb)
  (try clear hb2)
  (try clear hk)
  (try clear hi)
  (try clear ho0)
  obtain ⟨Ao11, co11, eo11⟩ := Kd.R_slice HO261.out
  (first | subst eo11 | (injection eo11 with f1_ f2_ f3_; have f4_ := f1_.symm; have f5_ := f3_.symm; clear f1_ f2_ f3_; subst f4_; subst f5_))
  obtain ⟨Ao12, co12, eo12⟩ := Kd.R_slice HO264.out
  (first | subst eo12 | (injection eo12 with f1_ f2_ f3_; have f4_ := f1_.symm; have f5_ := f3_.symm; clear f1_ f2_ f3_; subst f4_; subst f5_))
  refine hK.out _ _ ⟨(blk_cell BK257.out 0).trans rfl, (blk_cell BK257.out 1).trans rfl, (blk_cell BK258.out 0).trans rfl, (blk_cell BK258.out 1).trans rfl⟩ (fun hHeld => ?_)
  clear hK K
  refine norm_ (a' := ?_) ?_ ?_
  rotate_left
  · show Act.put _ (some 8) _ = _
    simp only [Act.put, List.setIfInBounds_toArray, List.set_cons_zero, List.set_cons_succ, i64_w, i32_w]
    rfl
  refine one_ (i := 4) (N := some 9) #[true, true, true, true, true, false] rfl rfl (by kernel_rfl) (by decide) (fun K hK => ?_)
  refine goes_ Try.func74 (by kernel_rfl) rfl #[.slice Ao11 t259.length co11, .slice Ao12 t262.length co12] (by rfl) rfl rfl (by (try simp only [List.map_toArray, List.map_cons, List.map_nil]); first | done | rfl | (simp only [List.length_drop, List.length_take]; rfl)) ?_
  with_reducible refine (vernierref00_Cmp.calls k _ _ t259 _ _ t262 t265 _ ?side1 ?side2 ?side3 ?side4 A5.out).mono ?_
  (case side1 => repeat (first | exact (Kd.R_reads' HO261.out).2.2 | (with_reducible refine Kd.C_alloc ?_ _) | (with_reducible refine Kd.C_drewN ?_ _) | (with_reducible refine Kd.C_drew ?_)))
  (case side2 => exact (Kd.R_reads' HO261.out).2.1)
  (case side3 => repeat (first | exact (Kd.R_reads' HO264.out).2.2 | (with_reducible refine Kd.C_alloc ?_ _) | (with_reducible refine Kd.C_drewN ?_ _) | (with_reducible refine Kd.C_drew ?_)))
  (case side4 => exact (Kd.R_reads' HO264.out).2.1)
  rintro e w' ⟨rfl, ⟨nd, rfl⟩⟩
  refine ⟨_, rfl, ?_⟩
  refine hK.out _ _ ⟨(blk_cell BK257.out 0).trans rfl, (blk_cell BK257.out 1).trans rfl, (blk_cell BK258.out 0).trans rfl, (blk_cell BK258.out 1).trans rfl⟩ (fun hHeld => ?_)
  clear hK K
  refine norm_ (a' := ?_) ?_ ?_
  rotate_left
  · show Act.put _ (some 9) _ = _
    simp only [Act.put, List.setIfInBounds_toArray, List.set_cons_zero, List.set_cons_succ, i64_w, i32_w]
    rfl
  refine pure_ (i := 5) (N := some 4) (v := ?_) (a' := ?_) #[true, true, true, true, true, true] rfl rfl (by kernel_rfl) (fun _ _ _ h => h) (Or.inl ⟨by rfl, ?_⟩) ?_ ?_
  rotate_left
  · intro w'
    go_simp
    with_reducible rfl
  rotate_left
  · simp only [Act.put, List.setIfInBounds_toArray, List.set_cons_zero, List.set_cons_succ, i64_w, i32_w]
    rfl
  refine done_ (by kernel_rfl) ?_
  try go_wp2
  go_ret
  exact ⟨by first | rfl | (simp [errW_none, errW_some] <;> rfl) | (simp [*, errW_none, errW_some] <;> rfl), by repeat (first | (with_reducible first | exact HB.out | apply pA | apply pN | apply p1 | refine pS ?_ GE257.out | refine pS ?_ GE258.out) | exact HB.out)⟩

/-! ### vernierref02_all: function 79 -/
def vernierref02_all.f (k : Nat)  : Option (List Int) := (vernierref00_Shl.f k (([1] : List Int)) 128).bind fun t289 => (some t289)
theorem vernierref02_all.mono : ∀ k, LeO (vernierref02_all.f k ) (vernierref02_all.f (k + 1) ) := by
  intro  k
  unfold vernierref02_all.f
  repeat' first
      | (with_reducible exact vernierref00_Shl.mono _ _ _)
      | (with_reducible exact LeO.refl _)
      | (with_reducible exact LeO.none _)
      | (with_reducible refine LeO.ite ?_ ?_)
      | (with_reducible refine LeO.bind ?_ (fun _ => ?_))
      | exact vernierref00_Shl.mono _ _ _
      | exact LeO.none _
      | refine LeO.ite ?_ ?_
      | refine LeO.bind ?_ (fun _ => ?_)
set_option maxHeartbeats 8000000 in
set_option maxRecDepth 100000 in
theorem vernierref02_all.calls (k : Nat)  (r : List Int) (w : World) (h : vernierref02_all.f k  = some r) :
    Calls Try.prog 79 #[] w fun e w' => ∃ v0_ : Value, e = .returned (v0_) ∧ Kd.R (Kd.int .i64) 3 w' w.heap.size (fun _ => True) v0_ r ∧ Below w.heap.size w w' := by
  have HB := Aside0.mk (Below.refl w.heap.size w)
  have H : ((vernierref00_Shl.f k (([1] : List Int)) 128).bind fun t289 => (some t289)) = some r := h
  clear h
  obtain ⟨y286, hy286⟩ : ∃ y_ : List Int, y_ = (([1] : List Int)) := ⟨_, rfl⟩
  replace H : ((vernierref00_Shl.f k y286 128).bind fun t289 => (some t289)) = some r := by first | (rw [hy286]; with_reducible exact H) | (have H2_ := (Option.bind_some _ _).symm.trans H; rw [hy286]; with_reducible exact H2_) | (have H2_ := (Option.bind_some _ _).symm.trans H; with_reducible exact H2_) | with_reducible exact H | (rw [hy286]; exact H) | exact H
  have Ny286 := Aside0.mk hy286
  clear hy286
  replace H := Option.bind_eq_some_iff.mp H
  obtain ⟨t289, A10, H⟩ := H
  replace H : (some t289) = some r := H
  have A1 := Aside0.mk A10
  clear A10
  obtain rfl := Option.some.inj H
  go_enter Try.func79, Try.ntmps79
  go_wp2_with (first | ((with_reducible refine gD (N := 1) rfl ?_); refine Kd.R_lit (Kd.int .i64) _ 3 ?hg (N := 1) ?hd (xs := ([1] : List Int)) (inner := [.int .i64 1]) (ok := fun _ => True) (okp := fun _ => True) ?hr ?hp (fun _ hk => hk) trivial (Below.refl _ _) (Nat.le_refl _) (by simp) ?_; (case hd => rfl); (case hg => rfl); (case hr => first | (go_simp; done) | (go_simp; rfl)); (case hp => exact (Reps.one (show Kd.M (Kd.int .i64) _ _ _ 1 [.int .i64 1] from rfl) (Reps.none _ _))); intro v287 w2 ho3 hb hg_ hnew_; clear hg_ hnew_; (first | rw [← Ny286.out] at ho3 | (simp only [Int.reduceToNat] at ho3; rw [← Ny286.out] at ho3)); have n0_ := Aside0.mk (Kd.R_lower ho3 (bZ (by repeat (first | (with_reducible first | exact HB.out | apply pA | apply pN | apply p1) | exact HB.out)))); have n1_ := Aside0.mk (bS3 HB.out hb); clear HB; have HO288 := n0_; have HB := n1_; clear n0_ n1_; clear hb ho3; obtain ⟨Ao4, co4, eo4⟩ := Kd.R_slice HO288.out; subst eo4) | ((with_reducible refine gC (f := 92) rfl ?_); refine goesY_ (some 2) Try.func92 #[.slice Ao4 y286.length co4, .int .i64 128] ?_; (with_reducible refine (vernierref00_Shl.calls k _ _ y286 128 t289 _ ?side1 ?side2 A1.out).mono ?_); (case side1 => repeat (first | exact (Kd.R_reads' HO288.out).2.2 | (with_reducible refine Kd.C_alloc ?_ _) | (with_reducible refine Kd.C_drewN ?_ _) | (with_reducible refine Kd.C_drew ?_))); (case side2 => exact (Kd.R_reads' HO288.out).2.1); rintro e w5 ⟨v290, rfl, ho0, hb⟩; refine ⟨_, rfl, ?_⟩; have n0_ := Aside0.mk (Kd.R_elder' (by (with_reducible repeat (first | apply Kd.R_alloc | apply Kd.R_drewN | apply Kd.R_drew)); exact HO288.out) (Kd.R_base ho0) hb); have n1_ := Aside0.mk (Kd.R_lower (Kd.R_new' ho0 (Kd.R_lt (by (with_reducible repeat (first | apply Kd.R_alloc | apply Kd.R_drewN | apply Kd.R_drew)); exact HO288.out))) (bZ (by repeat (first | (with_reducible first | exact HB.out | apply pA | apply pN | apply p1) | exact HB.out)))); have n2_ := Aside0.mk (bS3 HB.out hb); clear HO288; clear HB; have HO288 := n0_; have HO291 := n1_; have HB := n2_; clear n0_ n1_ n2_; (try clear hb); (try clear hb2); (try clear hk); (try clear hi); (try clear ho0)))
  go_ret
  exact ⟨_, by first | rfl | (simp [errW_none, errW_some] <;> rfl) | (simp [*, errW_none, errW_some] <;> rfl), by (with_reducible repeat (first | apply Kd.R_alloc | apply Kd.R_drewN | apply Kd.R_drew)); exact Kd.R_mono HO291.out (fun _ hk => trivial), by repeat (first | (with_reducible first | exact HB.out | apply pA | apply pN | apply p1) | exact HB.out)⟩

/-! ### vernierref02_Add: function 37 -/
def vernierref02_Add.f (k : Nat) (a0_0 : Int) (a0_1 : Int) (a1_0 : Int) (a1_1 : Int) : Option (Int × Int × Bool) := (vernierref02_Of.f k a0_0 a0_1).bind fun t295 => ((vernierref02_Of.f k a1_0 a1_1).bind fun t298 => ((vernierref00_Add.f k t295 t298).bind fun t301 => ((vernierref02_Told.f k t301).bind fun bt304 => ((vernierref02_all.f k).bind fun t306 => ((vernierref00_Cmp.f k t301 t306).bind fun t309 => (some (bt304.1, bt304.2, decide (t309 ≥ 0))))))))
theorem vernierref02_Add.mono : ∀ a0 a1 a2 a3 k, LeO (vernierref02_Add.f k a0 a1 a2 a3) (vernierref02_Add.f (k + 1) a0 a1 a2 a3) := by
  intro a0 a1 a2 a3 k
  unfold vernierref02_Add.f
  repeat' first
      | (with_reducible exact vernierref00_Add.mono _ _ _)
      | (with_reducible exact vernierref00_Cmp.mono _ _ _)
      | (with_reducible exact vernierref02_Of.mono _ _ _)
      | (with_reducible exact vernierref02_Told.mono _ _)
      | (with_reducible exact vernierref02_all.mono _)
      | (with_reducible exact LeO.refl _)
      | (with_reducible exact LeO.none _)
      | (with_reducible refine LeO.ite ?_ ?_)
      | (with_reducible refine LeO.bind ?_ (fun _ => ?_))
      | exact vernierref00_Add.mono _ _ _
      | exact vernierref00_Cmp.mono _ _ _
      | exact vernierref02_Of.mono _ _ _
      | exact vernierref02_Told.mono _ _
      | exact vernierref02_all.mono _
      | exact LeO.none _
      | refine LeO.ite ?_ ?_
      | refine LeO.bind ?_ (fun _ => ?_)
set_option maxHeartbeats 8000000 in
set_option maxRecDepth 100000 in
theorem vernierref02_Add.calls (k : Nat) (a0_0 : Int) (a0_1 : Int) (a1_0 : Int) (a1_1 : Int) (r1 : Int) (r2 : Int) (r3 : Bool) (w : World) (h : vernierref02_Add.f k a0_0 a0_1 a1_0 a1_1 = some (r1, r2, r3)) :
    Calls Try.prog 37 #[.agg #[.int .u64 a0_0, .int .u64 a0_1], .agg #[.int .u64 a1_0, .int .u64 a1_1]] w fun e w' => e = .returned (.tuple #[.agg #[.int .u64 r1, .int .u64 r2], .bool r3]) ∧ Below w.heap.size w w' := by
  have hu25 := Try.underlying25
  have HB := Aside0.mk (Below.refl w.heap.size w)
  have H : ((vernierref02_Of.f k a0_0 a0_1).bind fun t295 => ((vernierref02_Of.f k a1_0 a1_1).bind fun t298 => ((vernierref00_Add.f k t295 t298).bind fun t301 => ((vernierref02_Told.f k t301).bind fun bt304 => ((vernierref02_all.f k).bind fun t306 => ((vernierref00_Cmp.f k t301 t306).bind fun t309 => (some (bt304.1, bt304.2, decide (t309 ≥ 0))))))))) = some (r1, r2, r3) := h
  clear h
  replace H := Option.bind_eq_some_iff.mp H
  obtain ⟨t295, A30, H⟩ := H
  replace H : ((vernierref02_Of.f k a1_0 a1_1).bind fun t298 => ((vernierref00_Add.f k t295 t298).bind fun t301 => ((vernierref02_Told.f k t301).bind fun bt304 => ((vernierref02_all.f k).bind fun t306 => ((vernierref00_Cmp.f k t301 t306).bind fun t309 => (some (bt304.1, bt304.2, decide (t309 ≥ 0)))))))) = some (r1, r2, r3) := H
  have A3 := Aside0.mk A30
  clear A30
  replace H := Option.bind_eq_some_iff.mp H
  obtain ⟨t298, A40, H⟩ := H
  replace H : ((vernierref00_Add.f k t295 t298).bind fun t301 => ((vernierref02_Told.f k t301).bind fun bt304 => ((vernierref02_all.f k).bind fun t306 => ((vernierref00_Cmp.f k t301 t306).bind fun t309 => (some (bt304.1, bt304.2, decide (t309 ≥ 0))))))) = some (r1, r2, r3) := H
  have A4 := Aside0.mk A40
  clear A40
  replace H := Option.bind_eq_some_iff.mp H
  obtain ⟨t301, A50, H⟩ := H
  replace H : ((vernierref02_Told.f k t301).bind fun bt304 => ((vernierref02_all.f k).bind fun t306 => ((vernierref00_Cmp.f k t301 t306).bind fun t309 => (some (bt304.1, bt304.2, decide (t309 ≥ 0)))))) = some (r1, r2, r3) := H
  have A5 := Aside0.mk A50
  clear A50
  replace H := Option.bind_eq_some_iff.mp H
  obtain ⟨⟨t304, t305⟩, A60, H⟩ := H
  replace H : ((vernierref02_all.f k).bind fun t306 => ((vernierref00_Cmp.f k t301 t306).bind fun t309 => (some (t304, t305, decide (t309 ≥ 0))))) = some (r1, r2, r3) := H
  have A6 := Aside0.mk A60
  clear A60
  replace H := Option.bind_eq_some_iff.mp H
  obtain ⟨t306, A70, H⟩ := H
  replace H : ((vernierref00_Cmp.f k t301 t306).bind fun t309 => (some (t304, t305, decide (t309 ≥ 0)))) = some (r1, r2, r3) := H
  have A7 := Aside0.mk A70
  clear A70
  replace H := Option.bind_eq_some_iff.mp H
  obtain ⟨t309, A80, H⟩ := H
  replace H : (some (t304, t305, decide (t309 ≥ 0))) = some (r1, r2, r3) := H
  have A8 := Aside0.mk A80
  clear A80
  simp only [Option.some.injEq, Prod.mk.injEq] at H
  obtain ⟨rfl, rfl, rfl⟩ := H
  go_enter Try.func37, Try.ntmps37
  try go_wp2_with (first | ((with_reducible refine gD (N := 2) rfl ?_); refine bE3 2 #[.int .u64 a0_0, .int .u64 a0_1] 25 ?hr ?_; (case hr => first | (go_simp; done) | (go_simp; rfl)); intro gb292 hg w9 hbox hb; have n0_ := Aside0.mk (bS3 HB.out hb); have n1_ := Aside0.mk (hbox); have n2_ := Aside0.mk ((bZ3 hg HB.out)); have n3_ := Aside0.mk ((bZ3 hg HB.out)); clear HB; have HB := n0_; have BK292 := n1_; have GW292 := n2_; have GE292 := n3_; clear n0_ n1_ n2_ n3_; clear hb hbox hg) | ((with_reducible refine gD (N := 3) rfl ?_); refine bE3 3 #[.int .u64 a1_0, .int .u64 a1_1] 25 ?hr ?_; (case hr => first | (go_simp; done) | (go_simp; rfl)); intro gb293 hg w10 hbox hb; have n0_ := Aside0.mk (bB3 BK292.out hb); have n1_ := Aside0.mk (bS3 HB.out hb); have n2_ := Aside0.mk (hbox); have n3_ := Aside0.mk ((bZ3 hg HB.out)); have n4_ := Aside0.mk ((bZ3 hg HB.out)); have n5_ := Aside0.mk ((bL3 hg BK292.out)); have n6_ := Aside0.mk ((bG3 hg BK292.out)); clear BK292; clear HB; have BK292 := n0_; have HB := n1_; have BK293 := n2_; have GW293 := n3_; have GE293 := n4_; have NB292_293 := n5_; have NB293_292 := n6_; clear n0_ n1_ n2_ n3_ n4_ n5_ n6_; clear hb hbox hg) | ((with_reducible refine gD (N := 4) rfl ?_); refine bE3 4 #[.int .u64 0, .int .u64 0] 25 ?hr ?_; (case hr => first | (go_simp; done) | (go_simp; rfl)); intro gb294 hg w11 hbox hb; have n0_ := Aside0.mk (bB3 BK292.out hb); have n1_ := Aside0.mk (bB3 BK293.out hb); have n2_ := Aside0.mk (bS3 HB.out hb); have n3_ := Aside0.mk (hbox); have n4_ := Aside0.mk ((bZ3 hg HB.out)); have n5_ := Aside0.mk ((bZ3 hg HB.out)); have n6_ := Aside0.mk ((bL3 hg BK292.out)); have n7_ := Aside0.mk ((bG3 hg BK292.out)); have n8_ := Aside0.mk ((bL3 hg BK293.out)); have n9_ := Aside0.mk ((bG3 hg BK293.out)); clear BK292; clear BK293; clear HB; have BK292 := n0_; have BK293 := n1_; have HB := n2_; have BK294 := n3_; have GW294 := n4_; have GE294 := n5_; have NB292_294 := n6_; have NB294_292 := n7_; have NB293_294 := n8_; have NB294_293 := n9_; clear n0_ n1_ n2_ n3_ n4_ n5_ n6_ n7_ n8_ n9_; clear hb hbox hg))
  have n0_ := Aside0.mk (bD BK292.out)
  have n1_ := Aside0.mk (bD BK293.out)
  have n2_ := Aside0.mk (bD BK294.out)
  have n3_ := Aside0.mk (p1 HB.out)
  clear BK292
  clear BK293
  clear BK294
  clear HB
  have BK292 := n0_
  have BK293 := n1_
  have BK294 := n2_
  have HB := n3_
  clear n0_ n1_ n2_ n3_
  refine start_ (n := 6) (S := fun w' => w'.cell? ⟨gb292, 0, none⟩ = some (.int .u64 a0_0) ∧ w'.cell? ⟨gb292, 1, none⟩ = some (.int .u64 a0_1) ∧ w'.cell? ⟨gb293, 0, none⟩ = some (.int .u64 a1_0) ∧ w'.cell? ⟨gb293, 1, none⟩ = some (.int .u64 a1_1)) (ds := []) #[false, false, false, false, false, false] (by kernel_rfl) rfl rfl ⟨(blk_cell BK292.out 0).trans rfl, (blk_cell BK292.out 1).trans rfl, (blk_cell BK293.out 0).trans rfl, (blk_cell BK293.out 1).trans rfl⟩ (fun hHeld => ?_)
  generalize w11.drew = w12 at BK292 BK293 BK294 HB hHeld ⊢
  refine take_ (i := 0) (N := some 7) (v := ?_) (a' := ?_) #[true, false, false, false, false, false] rfl rfl (by kernel_rfl) (fun _ _ _ h => h) (Or.inl ⟨by rfl, ?_⟩) hHeld ?_ ?_
  rotate_left
  · rintro w' ⟨s0, s1, s2, s3⟩
    go_simp
    with_reducible rfl
  rotate_left
  · simp only [Act.put, List.setIfInBounds_toArray, List.set_cons_zero, List.set_cons_succ, i64_w, i32_w]
    rfl
  refine take_ (i := 2) (N := some 9) (v := ?_) (a' := ?_) #[true, false, true, false, false, false] rfl rfl (by kernel_rfl) (fun _ _ _ h => h) (Or.inl ⟨by rfl, ?_⟩) hHeld ?_ ?_
  rotate_left
  · rintro w' ⟨s0, s1, s2, s3⟩
    go_simp
    with_reducible rfl
  rotate_left
  · simp only [Act.put, List.setIfInBounds_toArray, List.set_cons_zero, List.set_cons_succ, i64_w, i32_w]
    rfl
  refine one_ (i := 1) (N := some 8) #[true, true, true, false, false, false] rfl rfl (by kernel_rfl) (by decide) (fun K hK => ?_)
  refine goes_ Try.func75 (by kernel_rfl) rfl #[.agg #[.int .u64 a0_0, .int .u64 a0_1]] (by rfl) rfl rfl (by (try simp only [List.map_toArray, List.map_cons, List.map_nil]); first | done | rfl | (simp only [List.length_drop, List.length_take]; rfl)) ?_
  with_reducible refine (vernierref02_Of.calls k a0_0 a0_1 t295 _ A3.out).mono ?_
  rintro e w13 ⟨v296, rfl, ho0, hb⟩
  refine ⟨_, rfl, ?_⟩
  have n0_ := Aside0.mk (Kd.R_lower ho0 (bZ (by repeat (first | (with_reducible first | exact HB.out | apply pA | apply pN | apply p1 | refine pS ?_ GE292.out | refine pS ?_ GE293.out | refine pS ?_ GE294.out) | exact HB.out))))
  have n1_ := Aside0.mk (bB3 BK292.out hb)
  have n2_ := Aside0.mk (bB3 BK293.out hb)
  have n3_ := Aside0.mk (bB3 BK294.out hb)
  have n4_ := Aside0.mk (bS3 HB.out hb)
  clear BK292
  clear BK293
  clear BK294
  clear HB
  have HO297 := n0_
  have BK292 := n1_
  have BK293 := n2_
  have BK294 := n3_
  have HB := n4_
  clear n0_ n1_ n2_ n3_ n4_
  (try clear hb)
  (try clear hb2)
  (try clear hk)
  (try clear hi)
  (try clear ho0)
  refine hK.out _ _ ⟨(blk_cell BK292.out 0).trans rfl, (blk_cell BK292.out 1).trans rfl, (blk_cell BK293.out 0).trans rfl, (blk_cell BK293.out 1).trans rfl⟩ (fun hHeld => ?_)
  clear hK K
  refine norm_ (a' := ?_) ?_ ?_
  rotate_left
  · show Act.put _ (some 8) _ = _
    simp only [Act.put, List.setIfInBounds_toArray, List.set_cons_zero, List.set_cons_succ, i64_w, i32_w]
    rfl
  refine one_ (i := 3) (N := some 10) #[true, true, true, true, false, false] rfl rfl (by kernel_rfl) (by decide) (fun K hK => ?_)
  refine goes_ Try.func75 (by kernel_rfl) rfl #[.agg #[.int .u64 a1_0, .int .u64 a1_1]] (by rfl) rfl rfl (by (try simp only [List.map_toArray, List.map_cons, List.map_nil]); first | done | rfl | (simp only [List.length_drop, List.length_take]; rfl)) ?_
  with_reducible refine (vernierref02_Of.calls k a1_0 a1_1 t298 _ A4.out).mono ?_
  rintro e w14 ⟨v299, rfl, ho0, hb⟩
  refine ⟨_, rfl, ?_⟩
  have n0_ := Aside0.mk (Kd.R_elder' (by (with_reducible repeat (first | apply Kd.R_alloc | apply Kd.R_drewN | apply Kd.R_drew)); exact HO297.out) (Kd.R_base ho0) hb)
  have n1_ := Aside0.mk (Kd.R_lower (Kd.R_new' ho0 (Kd.R_lt (by (with_reducible repeat (first | apply Kd.R_alloc | apply Kd.R_drewN | apply Kd.R_drew)); exact HO297.out))) (bZ (by repeat (first | (with_reducible first | exact HB.out | apply pA | apply pN | apply p1 | refine pS ?_ GE292.out | refine pS ?_ GE293.out | refine pS ?_ GE294.out) | exact HB.out))))
  have n2_ := Aside0.mk (bB3 BK292.out hb)
  have n3_ := Aside0.mk (bB3 BK293.out hb)
  have n4_ := Aside0.mk (bB3 BK294.out hb)
  have n5_ := Aside0.mk (bS3 HB.out hb)
  clear HO297
  clear BK292
  clear BK293
  clear BK294
  clear HB
  have HO297 := n0_
  have HO300 := n1_
  have BK292 := n2_
  have BK293 := n3_
  have BK294 := n4_
  have HB := n5_
  clear n0_ n1_ n2_ n3_ n4_ n5_
  (try clear hb)
  (try clear hb2)
  (try clear hk)
  (try clear hi)
  (try clear ho0)
  obtain ⟨Ao15, co15, eo15⟩ := Kd.R_slice HO297.out
  (first | subst eo15 | (injection eo15 with f1_ f2_ f3_; have f4_ := f1_.symm; have f5_ := f3_.symm; clear f1_ f2_ f3_; subst f4_; subst f5_))
  obtain ⟨Ao16, co16, eo16⟩ := Kd.R_slice HO300.out
  (first | subst eo16 | (injection eo16 with f1_ f2_ f3_; have f4_ := f1_.symm; have f5_ := f3_.symm; clear f1_ f2_ f3_; subst f4_; subst f5_))
  refine hK.out _ _ ⟨(blk_cell BK292.out 0).trans rfl, (blk_cell BK292.out 1).trans rfl, (blk_cell BK293.out 0).trans rfl, (blk_cell BK293.out 1).trans rfl⟩ (fun hHeld => ?_)
  clear hK K
  refine norm_ (a' := ?_) ?_ ?_
  rotate_left
  · show Act.put _ (some 10) _ = _
    simp only [Act.put, List.setIfInBounds_toArray, List.set_cons_zero, List.set_cons_succ, i64_w, i32_w]
    rfl
  refine one_ (i := 4) (N := some 11) #[true, true, true, true, true, false] rfl rfl (by kernel_rfl) (by decide) (fun K hK => ?_)
  refine goes_ Try.func78 (by kernel_rfl) rfl #[.slice Ao15 t295.length co15, .slice Ao16 t298.length co16] (by rfl) rfl rfl (by (try simp only [List.map_toArray, List.map_cons, List.map_nil]); first | done | rfl | (simp only [List.length_drop, List.length_take]; rfl)) ?_
  with_reducible refine (vernierref00_Add.calls k _ _ t295 _ _ t298 t301 _ ?side1 ?side2 ?side3 ?side4 A5.out).mono ?_
  (case side1 => repeat (first | exact (Kd.R_reads' HO297.out).2.2 | (with_reducible refine Kd.C_alloc ?_ _) | (with_reducible refine Kd.C_drewN ?_ _) | (with_reducible refine Kd.C_drew ?_)))
  (case side2 => exact (Kd.R_reads' HO297.out).2.1)
  (case side3 => repeat (first | exact (Kd.R_reads' HO300.out).2.2 | (with_reducible refine Kd.C_alloc ?_ _) | (with_reducible refine Kd.C_drewN ?_ _) | (with_reducible refine Kd.C_drew ?_)))
  (case side4 => exact (Kd.R_reads' HO300.out).2.1)
  rintro e w17 ⟨v302, rfl, ho0, hb⟩
  refine ⟨_, rfl, ?_⟩
  have n0_ := Aside0.mk (Kd.R_elder' (by (with_reducible repeat (first | apply Kd.R_alloc | apply Kd.R_drewN | apply Kd.R_drew)); exact HO297.out) (Kd.R_base ho0) hb)
  have n1_ := Aside0.mk (Kd.R_elder' (by (with_reducible repeat (first | apply Kd.R_alloc | apply Kd.R_drewN | apply Kd.R_drew)); exact HO300.out) (Kd.R_base ho0) hb)
  have n2_ := Aside0.mk (Kd.R_lower (Kd.R_new' (Kd.R_new' ho0 (Kd.R_lt (by (with_reducible repeat (first | apply Kd.R_alloc | apply Kd.R_drewN | apply Kd.R_drew)); exact HO297.out))) (Kd.R_lt (by (with_reducible repeat (first | apply Kd.R_alloc | apply Kd.R_drewN | apply Kd.R_drew)); exact HO300.out))) (bZ (by repeat (first | (with_reducible first | exact HB.out | apply pA | apply pN | apply p1 | refine pS ?_ GE292.out | refine pS ?_ GE293.out | refine pS ?_ GE294.out) | exact HB.out))))
  have n3_ := Aside0.mk (bB3 BK292.out hb)
  have n4_ := Aside0.mk (bB3 BK293.out hb)
  have n5_ := Aside0.mk (bB3 BK294.out hb)
  have n6_ := Aside0.mk (bS3 HB.out hb)
  clear HO297
  clear HO300
  clear BK292
  clear BK293
  clear BK294
  clear HB
  have HO297 := n0_
  have HO300 := n1_
  have HO303 := n2_
  have BK292 := n3_
  have BK293 := n4_
  have BK294 := n5_
  have HB := n6_
  clear n0_ n1_ n2_ n3_ n4_ n5_ n6_
  (try clear hb)
  (try clear hb2)
  (try clear hk)
  (try clear hi)
  (try clear ho0)
  refine hK.out _ _ ⟨(blk_cell BK292.out 0).trans rfl, (blk_cell BK292.out 1).trans rfl, (blk_cell BK293.out 0).trans rfl, (blk_cell BK293.out 1).trans rfl⟩ (fun hHeld => ?_)
  clear hK K
  refine norm_ (a' := ?_) ?_ ?_
  rotate_left
  · show Act.put _ (some 11) _ = _
    simp only [Act.put, List.setIfInBounds_toArray, List.set_cons_zero, List.set_cons_succ, i64_w, i32_w]
    rfl
  refine pure_ (i := 5) (N := some 6) (v := ?_) (a' := ?_) #[true, true, true, true, true, true] rfl rfl (by kernel_rfl) (fun _ _ _ h => h) (Or.inl ⟨by rfl, ?_⟩) ?_ ?_
  rotate_left
  · intro w'
    go_simp
    with_reducible rfl
  rotate_left
  · simp only [Act.put, List.setIfInBounds_toArray, List.set_cons_zero, List.set_cons_succ, i64_w, i32_w]
    rfl
  refine done_ (by kernel_rfl) ?_
  obtain ⟨Ao18, co18, eo18⟩ := Kd.R_slice HO303.out
  subst eo18
  try go_wp2_with (first | ((with_reducible refine gC (f := 68) rfl ?_); refine goesY_ (some 13) Try.func68 #[.slice Ao18 t301.length co18] ?_; (with_reducible refine (vernierref02_Told.calls k _ _ t301 t304 t305 _ ?side1 ?side2 A6.out).mono ?_); (case side1 => repeat (first | exact (Kd.R_reads' HO303.out).2.2 | (with_reducible refine Kd.C_alloc ?_ _) | (with_reducible refine Kd.C_drewN ?_ _) | (with_reducible refine Kd.C_drew ?_))); (case side2 => exact (Kd.R_reads' HO303.out).2.1); rintro e w19 ⟨rfl, hb⟩; refine ⟨_, rfl, ?_⟩; have n0_ := Aside0.mk (Kd.R_below (by (with_reducible repeat (first | apply Kd.R_alloc | apply Kd.R_drewN | apply Kd.R_drew)); exact HO297.out) hb); have n1_ := Aside0.mk (Kd.R_below (by (with_reducible repeat (first | apply Kd.R_alloc | apply Kd.R_drewN | apply Kd.R_drew)); exact HO300.out) hb); have n2_ := Aside0.mk (Kd.R_below (by (with_reducible repeat (first | apply Kd.R_alloc | apply Kd.R_drewN | apply Kd.R_drew)); exact HO303.out) hb); have n3_ := Aside0.mk (bB3 BK292.out hb); have n4_ := Aside0.mk (bB3 BK293.out hb); have n5_ := Aside0.mk (bB3 BK294.out hb); have n6_ := Aside0.mk (bS3 HB.out hb); clear HO297; clear HO300; clear HO303; clear BK292; clear BK293; clear BK294; clear HB; have HO297 := n0_; have HO300 := n1_; have HO303 := n2_; have BK292 := n3_; have BK293 := n4_; have BK294 := n5_; have HB := n6_; clear n0_ n1_ n2_ n3_ n4_ n5_ n6_; (try clear hb); (try clear hb2); (try clear hk); (try clear hi)) | ((with_reducible refine gC (f := 79) rfl ?_); refine goesY_ (some 15) Try.func79 #[] ?_; (with_reducible refine (vernierref02_all.calls k  t306 _ A7.out).mono ?_); rintro e w20 ⟨v307, rfl, ho0, hb⟩; refine ⟨_, rfl, ?_⟩; have n0_ := Aside0.mk (Kd.R_elder' (by (with_reducible repeat (first | apply Kd.R_alloc | apply Kd.R_drewN | apply Kd.R_drew)); exact HO297.out) (Kd.R_base ho0) hb); have n1_ := Aside0.mk (Kd.R_elder' (by (with_reducible repeat (first | apply Kd.R_alloc | apply Kd.R_drewN | apply Kd.R_drew)); exact HO300.out) (Kd.R_base ho0) hb); have n2_ := Aside0.mk (Kd.R_elder' (by (with_reducible repeat (first | apply Kd.R_alloc | apply Kd.R_drewN | apply Kd.R_drew)); exact HO303.out) (Kd.R_base ho0) hb); have n3_ := Aside0.mk (Kd.R_lower (Kd.R_new' (Kd.R_new' (Kd.R_new' ho0 (Kd.R_lt (by (with_reducible repeat (first | apply Kd.R_alloc | apply Kd.R_drewN | apply Kd.R_drew)); exact HO297.out))) (Kd.R_lt (by (with_reducible repeat (first | apply Kd.R_alloc | apply Kd.R_drewN | apply Kd.R_drew)); exact HO300.out))) (Kd.R_lt (by (with_reducible repeat (first | apply Kd.R_alloc | apply Kd.R_drewN | apply Kd.R_drew)); exact HO303.out))) (bZ (by repeat (first | (with_reducible first | exact HB.out | apply pA | apply pN | apply p1 | refine pS ?_ GE292.out | refine pS ?_ GE293.out | refine pS ?_ GE294.out) | exact HB.out)))); have n4_ := Aside0.mk (bB3 BK292.out hb); have n5_ := Aside0.mk (bB3 BK293.out hb); have n6_ := Aside0.mk (bB3 BK294.out hb); have n7_ := Aside0.mk (bS3 HB.out hb); clear HO297; clear HO300; clear HO303; clear BK292; clear BK293; clear BK294; clear HB; have HO297 := n0_; have HO300 := n1_; have HO303 := n2_; have HO308 := n3_; have BK292 := n4_; have BK293 := n5_; have BK294 := n6_; have HB := n7_; clear n0_ n1_ n2_ n3_ n4_ n5_ n6_ n7_; (try clear hb); (try clear hb2); (try clear hk); (try clear hi); (try clear ho0); obtain ⟨Ao21, co21, eo21⟩ := Kd.R_slice HO308.out; subst eo21) | ((with_reducible refine gC (f := 74) rfl ?_); refine goesY_ (some 16) Try.func74 #[.slice Ao18 t301.length co18, .slice Ao21 t306.length co21] ?_; (with_reducible refine (vernierref00_Cmp.calls k _ _ t301 _ _ t306 t309 _ ?side1 ?side2 ?side3 ?side4 A8.out).mono ?_); (case side1 => repeat (first | exact (Kd.R_reads' HO303.out).2.2 | (with_reducible refine Kd.C_alloc ?_ _) | (with_reducible refine Kd.C_drewN ?_ _) | (with_reducible refine Kd.C_drew ?_))); (case side2 => exact (Kd.R_reads' HO303.out).2.1); (case side3 => repeat (first | exact (Kd.R_reads' HO308.out).2.2 | (with_reducible refine Kd.C_alloc ?_ _) | (with_reducible refine Kd.C_drewN ?_ _) | (with_reducible refine Kd.C_drew ?_))); (case side4 => exact (Kd.R_reads' HO308.out).2.1); rintro e w' ⟨rfl, ⟨nd, rfl⟩⟩; refine ⟨_, rfl, ?_⟩; (try (rw [drewN_self w20]; generalize hq_ : World.drewN w20 _ = w20; have n0_ : Aside0 (Kd.R (Kd.int .i64) 3 w20 w.heap.size (fun k_ => some k_ ≠ (.slice Ao16 t298.length co16 : Value).ownBlock ∧ some k_ ≠ (.slice Ao18 t301.length co18 : Value).ownBlock ∧ some k_ ≠ (.slice Ao21 t306.length co21 : Value).ownBlock) (.slice Ao15 t295.length co15) t295) := ⟨by rw [← hq_]; exact (by (with_reducible repeat (first | apply Kd.R_alloc | apply Kd.R_drewN | apply Kd.R_drew)); exact Kd.R_mono HO297.out (fun _ hk => ⟨hk.1.1.2, ⟨hk.1.2, hk.2⟩⟩))⟩; have n1_ : Aside0 (Kd.R (Kd.int .i64) 3 w20 w.heap.size (fun k_ => some k_ ≠ (.slice Ao15 t295.length co15 : Value).ownBlock ∧ some k_ ≠ (.slice Ao18 t301.length co18 : Value).ownBlock ∧ some k_ ≠ (.slice Ao21 t306.length co21 : Value).ownBlock) (.slice Ao16 t298.length co16) t298) := ⟨by rw [← hq_]; exact (by (with_reducible repeat (first | apply Kd.R_alloc | apply Kd.R_drewN | apply Kd.R_drew)); exact Kd.R_mono HO300.out (fun _ hk => ⟨hk.1.1.2, ⟨hk.1.2, hk.2⟩⟩))⟩; have n2_ : Aside0 (Kd.R (Kd.int .i64) 3 w20 w.heap.size (fun k_ => some k_ ≠ (.slice Ao15 t295.length co15 : Value).ownBlock ∧ some k_ ≠ (.slice Ao16 t298.length co16 : Value).ownBlock ∧ some k_ ≠ (.slice Ao21 t306.length co21 : Value).ownBlock) (.slice Ao18 t301.length co18) t301) := ⟨by rw [← hq_]; exact (by (with_reducible repeat (first | apply Kd.R_alloc | apply Kd.R_drewN | apply Kd.R_drew)); exact Kd.R_mono HO303.out (fun _ hk => ⟨hk.1.1.2, ⟨hk.1.2, hk.2⟩⟩))⟩; have n3_ : Aside0 (Kd.R (Kd.int .i64) 3 w20 w.heap.size (fun k_ => some k_ ≠ (.slice Ao15 t295.length co15 : Value).ownBlock ∧ some k_ ≠ (.slice Ao16 t298.length co16 : Value).ownBlock ∧ some k_ ≠ (.slice Ao18 t301.length co18 : Value).ownBlock) (.slice Ao21 t306.length co21) t306) := ⟨by rw [← hq_]; exact (by (with_reducible repeat (first | apply Kd.R_alloc | apply Kd.R_drewN | apply Kd.R_drew)); exact Kd.R_mono HO308.out (fun _ hk => ⟨hk.1.1.2, ⟨hk.1.2, hk.2⟩⟩))⟩; have n4_ : Aside0 (w20.heap[gb292]? = some (.cells #[.int .u64 a0_0, .int .u64 a0_1] 25 (0, 0))) := ⟨by rw [← hq_]; exact (by (with_reducible repeat (first | refine bN ?_ _ | refine bD ?_ | refine bA ?_ _)); exact BK292.out)⟩; have n5_ : Aside0 (w20.heap[gb293]? = some (.cells #[.int .u64 a1_0, .int .u64 a1_1] 25 (0, 0))) := ⟨by rw [← hq_]; exact (by (with_reducible repeat (first | refine bN ?_ _ | refine bD ?_ | refine bA ?_ _)); exact BK293.out)⟩; have n6_ : Aside0 (w20.heap[gb294]? = some (.cells #[.int .u64 0, .int .u64 0] 25 (0, 0))) := ⟨by rw [← hq_]; exact (by (with_reducible repeat (first | refine bN ?_ _ | refine bD ?_ | refine bA ?_ _)); exact BK294.out)⟩; have n7_ : Aside0 (Below w.heap.size w w20) := ⟨by rw [← hq_]; exact (by repeat (first | (with_reducible first | exact HB.out | apply pA | apply pN | apply p1 | refine pS ?_ GE292.out | refine pS ?_ GE293.out | refine pS ?_ GE294.out) | exact HB.out))⟩; clear HO297 HO300 HO303 HO308 BK292 BK293 BK294 HB hq_; have HO297 := n0_; have HO300 := n1_; have HO303 := n2_; have HO308 := n3_; have BK292 := n4_; have BK293 := n5_; have BK294 := n6_; have HB := n7_; clear n0_ n1_ n2_ n3_ n4_ n5_ n6_ n7_)); have hnb22 := NB294_292.out; have hnc22 := NB292_294.out; have hnb23 := NB294_293.out; have hnc23 := NB293_294.out; have hcz24_0 : w20.cell? ⟨gb294, 0, none⟩ = some (.int .u64 0) := (blk_cell BK294.out 0).trans rfl; have hcz24_1 : w20.cell? ⟨gb294, 1, none⟩ = some (.int .u64 0) := (blk_cell BK294.out 1).trans rfl; have hfz24_0 := blk_frozen BK294.out 0; have hfz24_1 := blk_frozen BK294.out 1))
  refine bodyPost_ret (results_ct rfl _ _ gb294 25 #[.int .u64 t304, .int .u64 t305] (0, 0) _ rfl (by (with_reducible repeat (first | refine bN ?_ _ | refine bD ?_ | refine bA ?_ _)); refine blk_put (cs := #[.int .u64 t304, .int .u64 0]) ?_ 1 _ rfl; (with_reducible repeat (first | refine bN ?_ _ | refine bD ?_ | refine bA ?_ _)); refine blk_put (cs := #[.int .u64 0, .int .u64 0]) ?_ 0 _ rfl; (with_reducible repeat (first | refine bN ?_ _ | refine bD ?_ | refine bA ?_ _)); exact BK294.out) Try.underlying25 rfl (by kernel_rfl)) rfl ?_
  exact ⟨by first | rfl | (simp [errW_none, errW_some] <;> rfl) | (simp [*, errW_none, errW_some] <;> rfl), by repeat (first | (with_reducible first | exact HB.out | apply pA | apply pN | apply p1 | refine pS ?_ GE292.out | refine pS ?_ GE293.out | refine pS ?_ GE294.out) | exact HB.out)⟩

/-! ### vernierref02_Sub: function 38 -/
def vernierref02_Sub.f (k : Nat) (a0_0 : Int) (a0_1 : Int) (a1_0 : Int) (a1_1 : Int) : Option (Int × Int × Bool) := (vernierref02_Of.f k a0_0 a0_1).bind fun t324 => ((vernierref02_all.f k).bind fun t327 => ((vernierref00_Add.f k t324 t327).bind fun t330 => ((vernierref02_Of.f k a1_0 a1_1).bind fun t333 => ((vernierref00_Sub.f k t330 t333).bind fun t336 => ((vernierref02_Told.f k t336).bind fun bt339 => ((vernierref02_Of.f k a0_0 a0_1).bind fun t341 => ((vernierref02_Of.f k a1_0 a1_1).bind fun t344 => ((vernierref00_Cmp.f k t341 t344).bind fun t347 => (some (bt339.1, bt339.2, decide (t347 < 0)))))))))))
theorem vernierref02_Sub.mono : ∀ a0 a1 a2 a3 k, LeO (vernierref02_Sub.f k a0 a1 a2 a3) (vernierref02_Sub.f (k + 1) a0 a1 a2 a3) := by
  intro a0 a1 a2 a3 k
  unfold vernierref02_Sub.f
  repeat' first
      | (with_reducible exact vernierref00_Add.mono _ _ _)
      | (with_reducible exact vernierref00_Cmp.mono _ _ _)
      | (with_reducible exact vernierref00_Sub.mono _ _ _)
      | (with_reducible exact vernierref02_Of.mono _ _ _)
      | (with_reducible exact vernierref02_Told.mono _ _)
      | (with_reducible exact vernierref02_all.mono _)
      | (with_reducible exact LeO.refl _)
      | (with_reducible exact LeO.none _)
      | (with_reducible refine LeO.ite ?_ ?_)
      | (with_reducible refine LeO.bind ?_ (fun _ => ?_))
      | exact vernierref00_Add.mono _ _ _
      | exact vernierref00_Cmp.mono _ _ _
      | exact vernierref00_Sub.mono _ _ _
      | exact vernierref02_Of.mono _ _ _
      | exact vernierref02_Told.mono _ _
      | exact vernierref02_all.mono _
      | exact LeO.none _
      | refine LeO.ite ?_ ?_
      | refine LeO.bind ?_ (fun _ => ?_)
def vernierref02_Sub.T1 : Bool × List (List Nat × List Nat) := (true, [([], []), ([0], [0]), ([1], []), ([1, 2, 2], [1, 2]), ([], []), ([4, 3], [4]), ([3, 5, 5], [3, 5]), ([6, 6, 0, 1, 2, 3, 4, 5, 6], [6])])
def vernierref02_Sub.B1 : List Nat := [0, 1, 3, 7, 0, 31, 63, 127]
theorem vernierref02_Sub.tab1 : rtab .any (opsOf Try.f38 1) = vernierref02_Sub.T1 := by kernel_rfl
theorem vernierref02_Sub.bits1 : waitsOk vernierref02_Sub.T1.2 vernierref02_Sub.B1 = true := by kernel_rfl
def vernierref02_Sub.T2 : Bool × List (List Nat × List Nat) := (true, [([], []), ([0], [0]), ([], []), ([2, 1], [2]), ([], []), ([4, 3], [4]), ([3, 5, 5], [3, 5]), ([6], [6]), ([1, 6, 0, 1], [1]), ([7, 8, 0, 1, 2, 3, 4, 5, 6, 7, 8], [7])])
def vernierref02_Sub.B2 : List Nat := [0, 1, 0, 7, 0, 31, 63, 127, 127, 511]
theorem vernierref02_Sub.tab2 : rtab .any (opsOf Try.f38 2) = vernierref02_Sub.T2 := by kernel_rfl
theorem vernierref02_Sub.bits2 : waitsOk vernierref02_Sub.T2.2 vernierref02_Sub.B2 = true := by kernel_rfl
set_option maxHeartbeats 8000000 in
set_option maxRecDepth 100000 in
theorem vernierref02_Sub.calls (k : Nat) (a0_0 : Int) (a0_1 : Int) (a1_0 : Int) (a1_1 : Int) (r1 : Int) (r2 : Int) (r3 : Bool) (w : World) (h : vernierref02_Sub.f k a0_0 a0_1 a1_0 a1_1 = some (r1, r2, r3)) :
    Calls Try.prog 38 #[.agg #[.int .u64 a0_0, .int .u64 a0_1], .agg #[.int .u64 a1_0, .int .u64 a1_1]] w fun e w' => e = .returned (.tuple #[.agg #[.int .u64 r1, .int .u64 r2], .bool r3]) ∧ Below w.heap.size w w' := by
  have hu25 := Try.underlying25
  have HB := Aside0.mk (Below.refl w.heap.size w)
  have H : ((vernierref02_Of.f k a0_0 a0_1).bind fun t324 => ((vernierref02_all.f k).bind fun t327 => ((vernierref00_Add.f k t324 t327).bind fun t330 => ((vernierref02_Of.f k a1_0 a1_1).bind fun t333 => ((vernierref00_Sub.f k t330 t333).bind fun t336 => ((vernierref02_Told.f k t336).bind fun bt339 => ((vernierref02_Of.f k a0_0 a0_1).bind fun t341 => ((vernierref02_Of.f k a1_0 a1_1).bind fun t344 => ((vernierref00_Cmp.f k t341 t344).bind fun t347 => (some (bt339.1, bt339.2, decide (t347 < 0)))))))))))) = some (r1, r2, r3) := h
  clear h
  replace H := Option.bind_eq_some_iff.mp H
  obtain ⟨t324, A30, H⟩ := H
  replace H : ((vernierref02_all.f k).bind fun t327 => ((vernierref00_Add.f k t324 t327).bind fun t330 => ((vernierref02_Of.f k a1_0 a1_1).bind fun t333 => ((vernierref00_Sub.f k t330 t333).bind fun t336 => ((vernierref02_Told.f k t336).bind fun bt339 => ((vernierref02_Of.f k a0_0 a0_1).bind fun t341 => ((vernierref02_Of.f k a1_0 a1_1).bind fun t344 => ((vernierref00_Cmp.f k t341 t344).bind fun t347 => (some (bt339.1, bt339.2, decide (t347 < 0))))))))))) = some (r1, r2, r3) := H
  have A3 := Aside0.mk A30
  clear A30
  replace H := Option.bind_eq_some_iff.mp H
  obtain ⟨t327, A40, H⟩ := H
  replace H : ((vernierref00_Add.f k t324 t327).bind fun t330 => ((vernierref02_Of.f k a1_0 a1_1).bind fun t333 => ((vernierref00_Sub.f k t330 t333).bind fun t336 => ((vernierref02_Told.f k t336).bind fun bt339 => ((vernierref02_Of.f k a0_0 a0_1).bind fun t341 => ((vernierref02_Of.f k a1_0 a1_1).bind fun t344 => ((vernierref00_Cmp.f k t341 t344).bind fun t347 => (some (bt339.1, bt339.2, decide (t347 < 0)))))))))) = some (r1, r2, r3) := H
  have A4 := Aside0.mk A40
  clear A40
  replace H := Option.bind_eq_some_iff.mp H
  obtain ⟨t330, A50, H⟩ := H
  replace H : ((vernierref02_Of.f k a1_0 a1_1).bind fun t333 => ((vernierref00_Sub.f k t330 t333).bind fun t336 => ((vernierref02_Told.f k t336).bind fun bt339 => ((vernierref02_Of.f k a0_0 a0_1).bind fun t341 => ((vernierref02_Of.f k a1_0 a1_1).bind fun t344 => ((vernierref00_Cmp.f k t341 t344).bind fun t347 => (some (bt339.1, bt339.2, decide (t347 < 0))))))))) = some (r1, r2, r3) := H
  have A5 := Aside0.mk A50
  clear A50
  replace H := Option.bind_eq_some_iff.mp H
  obtain ⟨t333, A60, H⟩ := H
  replace H : ((vernierref00_Sub.f k t330 t333).bind fun t336 => ((vernierref02_Told.f k t336).bind fun bt339 => ((vernierref02_Of.f k a0_0 a0_1).bind fun t341 => ((vernierref02_Of.f k a1_0 a1_1).bind fun t344 => ((vernierref00_Cmp.f k t341 t344).bind fun t347 => (some (bt339.1, bt339.2, decide (t347 < 0)))))))) = some (r1, r2, r3) := H
  have A6 := Aside0.mk A60
  clear A60
  replace H := Option.bind_eq_some_iff.mp H
  obtain ⟨t336, A70, H⟩ := H
  replace H : ((vernierref02_Told.f k t336).bind fun bt339 => ((vernierref02_Of.f k a0_0 a0_1).bind fun t341 => ((vernierref02_Of.f k a1_0 a1_1).bind fun t344 => ((vernierref00_Cmp.f k t341 t344).bind fun t347 => (some (bt339.1, bt339.2, decide (t347 < 0))))))) = some (r1, r2, r3) := H
  have A7 := Aside0.mk A70
  clear A70
  replace H := Option.bind_eq_some_iff.mp H
  obtain ⟨⟨t339, t340⟩, A80, H⟩ := H
  replace H : ((vernierref02_Of.f k a0_0 a0_1).bind fun t341 => ((vernierref02_Of.f k a1_0 a1_1).bind fun t344 => ((vernierref00_Cmp.f k t341 t344).bind fun t347 => (some (t339, t340, decide (t347 < 0)))))) = some (r1, r2, r3) := H
  have A8 := Aside0.mk A80
  clear A80
  replace H := Option.bind_eq_some_iff.mp H
  obtain ⟨t341, A90, H⟩ := H
  replace H : ((vernierref02_Of.f k a1_0 a1_1).bind fun t344 => ((vernierref00_Cmp.f k t341 t344).bind fun t347 => (some (t339, t340, decide (t347 < 0))))) = some (r1, r2, r3) := H
  have A9 := Aside0.mk A90
  clear A90
  replace H := Option.bind_eq_some_iff.mp H
  obtain ⟨t344, A100, H⟩ := H
  replace H : ((vernierref00_Cmp.f k t341 t344).bind fun t347 => (some (t339, t340, decide (t347 < 0)))) = some (r1, r2, r3) := H
  have A10 := Aside0.mk A100
  clear A100
  replace H := Option.bind_eq_some_iff.mp H
  obtain ⟨t347, A110, H⟩ := H
  replace H : (some (t339, t340, decide (t347 < 0))) = some (r1, r2, r3) := H
  have A11 := Aside0.mk A110
  clear A110
  simp only [Option.some.injEq, Prod.mk.injEq] at H
  obtain ⟨rfl, rfl, rfl⟩ := H
  go_enter Try.func38, Try.ntmps38
  try go_wp2_with (first | ((with_reducible refine gD (N := 2) rfl ?_); refine bE3 2 #[.int .u64 a0_0, .int .u64 a0_1] 25 ?hr ?_; (case hr => first | (go_simp; done) | (go_simp; rfl)); intro gb321 hg w12 hbox hb; have n0_ := Aside0.mk (bS3 HB.out hb); have n1_ := Aside0.mk (hbox); have n2_ := Aside0.mk ((bZ3 hg HB.out)); have n3_ := Aside0.mk ((bZ3 hg HB.out)); clear HB; have HB := n0_; have BK321 := n1_; have GW321 := n2_; have GE321 := n3_; clear n0_ n1_ n2_ n3_; clear hb hbox hg) | ((with_reducible refine gD (N := 3) rfl ?_); refine bE3 3 #[.int .u64 a1_0, .int .u64 a1_1] 25 ?hr ?_; (case hr => first | (go_simp; done) | (go_simp; rfl)); intro gb322 hg w13 hbox hb; have n0_ := Aside0.mk (bB3 BK321.out hb); have n1_ := Aside0.mk (bS3 HB.out hb); have n2_ := Aside0.mk (hbox); have n3_ := Aside0.mk ((bZ3 hg HB.out)); have n4_ := Aside0.mk ((bZ3 hg HB.out)); have n5_ := Aside0.mk ((bL3 hg BK321.out)); have n6_ := Aside0.mk ((bG3 hg BK321.out)); clear BK321; clear HB; have BK321 := n0_; have HB := n1_; have BK322 := n2_; have GW322 := n3_; have GE322 := n4_; have NB321_322 := n5_; have NB322_321 := n6_; clear n0_ n1_ n2_ n3_ n4_ n5_ n6_; clear hb hbox hg) | ((with_reducible refine gD (N := 4) rfl ?_); refine bE3 4 #[.int .u64 0, .int .u64 0] 25 ?hr ?_; (case hr => first | (go_simp; done) | (go_simp; rfl)); intro gb323 hg w14 hbox hb; have n0_ := Aside0.mk (bB3 BK321.out hb); have n1_ := Aside0.mk (bB3 BK322.out hb); have n2_ := Aside0.mk (bS3 HB.out hb); have n3_ := Aside0.mk (hbox); have n4_ := Aside0.mk ((bZ3 hg HB.out)); have n5_ := Aside0.mk ((bZ3 hg HB.out)); have n6_ := Aside0.mk ((bL3 hg BK321.out)); have n7_ := Aside0.mk ((bG3 hg BK321.out)); have n8_ := Aside0.mk ((bL3 hg BK322.out)); have n9_ := Aside0.mk ((bG3 hg BK322.out)); clear BK321; clear BK322; clear HB; have BK321 := n0_; have BK322 := n1_; have HB := n2_; have BK323 := n3_; have GW323 := n4_; have GE323 := n5_; have NB321_323 := n6_; have NB323_321 := n7_; have NB322_323 := n8_; have NB323_322 := n9_; clear n0_ n1_ n2_ n3_ n4_ n5_ n6_ n7_ n8_ n9_; clear hb hbox hg))
  have n0_ := Aside0.mk (bD BK321.out)
  have n1_ := Aside0.mk (bD BK322.out)
  have n2_ := Aside0.mk (bD BK323.out)
  have n3_ := Aside0.mk (p1 HB.out)
  clear BK321
  clear BK322
  clear BK323
  clear HB
  have BK321 := n0_
  have BK322 := n1_
  have BK323 := n2_
  have HB := n3_
  clear n0_ n1_ n2_ n3_
  refine start_ (n := 8) (S := fun w' => w'.cell? ⟨gb321, 0, none⟩ = some (.int .u64 a0_0) ∧ w'.cell? ⟨gb321, 1, none⟩ = some (.int .u64 a0_1) ∧ w'.cell? ⟨gb322, 0, none⟩ = some (.int .u64 a1_0) ∧ w'.cell? ⟨gb322, 1, none⟩ = some (.int .u64 a1_1)) (ds := []) #[false, false, false, false, false, false, false, false] (by kernel_rfl) rfl rfl ⟨(blk_cell BK321.out 0).trans rfl, (blk_cell BK321.out 1).trans rfl, (blk_cell BK322.out 0).trans rfl, (blk_cell BK322.out 1).trans rfl⟩ (fun hHeld => ?_); refine with_tabW vernierref02_Sub.tab1 vernierref02_Sub.bits1 (fun HT_ HW_ => ?_)
  generalize w14.drew = w15 at BK321 BK322 BK323 HB hHeld ⊢
  refine take_ (i := 0) (N := some 7) (v := ?_) (a' := ?_) #[true, false, false, false, false, false, false, false] rfl rfl (take_ofW HT_.out HW_.out (by kernel_rfl)) (fun _ _ _ h => h) (Or.inl ⟨by rfl, ?_⟩) hHeld ?_ ?_
  rotate_left
  · rintro w' ⟨s0, s1, s2, s3⟩
    go_simp
    with_reducible rfl
  rotate_left
  · simp only [Act.put, List.setIfInBounds_toArray, List.set_cons_zero, List.set_cons_succ, i64_w, i32_w]
    rfl
  refine take_ (i := 4) (N := some 11) (v := ?_) (a' := ?_) #[true, false, false, false, true, false, false, false] rfl rfl (take_ofW HT_.out HW_.out (by kernel_rfl)) (fun _ _ _ h => h) (Or.inl ⟨by rfl, ?_⟩) hHeld ?_ ?_
  rotate_left
  · rintro w' ⟨s0, s1, s2, s3⟩
    go_simp
    with_reducible rfl
  rotate_left
  · simp only [Act.put, List.setIfInBounds_toArray, List.set_cons_zero, List.set_cons_succ, i64_w, i32_w]
    rfl
  refine one_ (i := 1) (N := some 8) #[true, true, false, false, true, false, false, false] rfl rfl (one_of HT_.out (by kernel_rfl)) (by decide) (fun K hK => ?_)
  refine goes_ Try.func75 (by kernel_rfl) rfl #[.agg #[.int .u64 a0_0, .int .u64 a0_1]] (by rfl) rfl rfl (by (try simp only [List.map_toArray, List.map_cons, List.map_nil]); first | done | rfl | (simp only [List.length_drop, List.length_take]; rfl)) ?_
  with_reducible refine (vernierref02_Of.calls k a0_0 a0_1 t324 _ A3.out).mono ?_
  rintro e w16 ⟨v325, rfl, ho0, hb⟩
  refine ⟨_, rfl, ?_⟩
  have n0_ := Aside0.mk (Kd.R_lower ho0 (bZ (by repeat (first | (with_reducible first | exact HB.out | apply pA | apply pN | apply p1 | refine pS ?_ GE321.out | refine pS ?_ GE322.out | refine pS ?_ GE323.out) | exact HB.out))))
  have n1_ := Aside0.mk (bB3 BK321.out hb)
  have n2_ := Aside0.mk (bB3 BK322.out hb)
  have n3_ := Aside0.mk (bB3 BK323.out hb)
  have n4_ := Aside0.mk (bS3 HB.out hb)
  clear BK321
  clear BK322
  clear BK323
  clear HB
  have HO326 := n0_
  have BK321 := n1_
  have BK322 := n2_
  have BK323 := n3_
  have HB := n4_
  clear n0_ n1_ n2_ n3_ n4_
  (try clear hb)
  (try clear hb2)
  (try clear hk)
  (try clear hi)
  (try clear ho0)
  refine hK.out _ _ ⟨(blk_cell BK321.out 0).trans rfl, (blk_cell BK321.out 1).trans rfl, (blk_cell BK322.out 0).trans rfl, (blk_cell BK322.out 1).trans rfl⟩ (fun hHeld => ?_)
  clear hK K
  refine norm_ (a' := ?_) ?_ ?_
  rotate_left
  · show Act.put _ (some 8) _ = _
    simp only [Act.put, List.setIfInBounds_toArray, List.set_cons_zero, List.set_cons_succ, i64_w, i32_w]
    rfl
  refine one_ (i := 2) (N := some 9) #[true, true, true, false, true, false, false, false] rfl rfl (one_of HT_.out (by kernel_rfl)) (by decide) (fun K hK => ?_)
  refine goes_ Try.func79 (by kernel_rfl) rfl #[] (by rfl) rfl rfl (by (try simp only [List.map_toArray, List.map_cons, List.map_nil]); first | done | rfl | (simp only [List.length_drop, List.length_take]; rfl)) ?_
  with_reducible refine (vernierref02_all.calls k  t327 _ A4.out).mono ?_
  rintro e w17 ⟨v328, rfl, ho0, hb⟩
  refine ⟨_, rfl, ?_⟩
  have n0_ := Aside0.mk (Kd.R_elder' (by (with_reducible repeat (first | apply Kd.R_alloc | apply Kd.R_drewN | apply Kd.R_drew)); exact HO326.out) (Kd.R_base ho0) hb)
  have n1_ := Aside0.mk (Kd.R_lower (Kd.R_new' ho0 (Kd.R_lt (by (with_reducible repeat (first | apply Kd.R_alloc | apply Kd.R_drewN | apply Kd.R_drew)); exact HO326.out))) (bZ (by repeat (first | (with_reducible first | exact HB.out | apply pA | apply pN | apply p1 | refine pS ?_ GE321.out | refine pS ?_ GE322.out | refine pS ?_ GE323.out) | exact HB.out))))
  have n2_ := Aside0.mk (bB3 BK321.out hb)
  have n3_ := Aside0.mk (bB3 BK322.out hb)
  have n4_ := Aside0.mk (bB3 BK323.out hb)
  have n5_ := Aside0.mk (bS3 HB.out hb)
  clear HO326
  clear BK321
  clear BK322
  clear BK323
  clear HB
  have HO326 := n0_
  have HO329 := n1_
  have BK321 := n2_
  have BK322 := n3_
  have BK323 := n4_
  have HB := n5_
  clear n0_ n1_ n2_ n3_ n4_ n5_
  (try clear hb)
  (try clear hb2)
  (try clear hk)
  (try clear hi)
  (try clear ho0)
  obtain ⟨Ao18, co18, eo18⟩ := Kd.R_slice HO326.out
  (first | subst eo18 | (injection eo18 with f1_ f2_ f3_; have f4_ := f1_.symm; have f5_ := f3_.symm; clear f1_ f2_ f3_; subst f4_; subst f5_))
  obtain ⟨Ao19, co19, eo19⟩ := Kd.R_slice HO329.out
  (first | subst eo19 | (injection eo19 with f1_ f2_ f3_; have f4_ := f1_.symm; have f5_ := f3_.symm; clear f1_ f2_ f3_; subst f4_; subst f5_))
  refine hK.out _ _ ⟨(blk_cell BK321.out 0).trans rfl, (blk_cell BK321.out 1).trans rfl, (blk_cell BK322.out 0).trans rfl, (blk_cell BK322.out 1).trans rfl⟩ (fun hHeld => ?_)
  clear hK K
  refine norm_ (a' := ?_) ?_ ?_
  rotate_left
  · show Act.put _ (some 9) _ = _
    simp only [Act.put, List.setIfInBounds_toArray, List.set_cons_zero, List.set_cons_succ, i64_w, i32_w]
    rfl
  refine one_ (i := 3) (N := some 10) #[true, true, true, true, true, false, false, false] rfl rfl (one_of HT_.out (by kernel_rfl)) (by decide) (fun K hK => ?_)
  refine goes_ Try.func78 (by kernel_rfl) rfl #[.slice Ao18 t324.length co18, .slice Ao19 t327.length co19] (by rfl) rfl rfl (by (try simp only [List.map_toArray, List.map_cons, List.map_nil]); first | done | rfl | (simp only [List.length_drop, List.length_take]; rfl)) ?_
  with_reducible refine (vernierref00_Add.calls k _ _ t324 _ _ t327 t330 _ ?side1 ?side2 ?side3 ?side4 A5.out).mono ?_
  (case side1 => repeat (first | exact (Kd.R_reads' HO326.out).2.2 | (with_reducible refine Kd.C_alloc ?_ _) | (with_reducible refine Kd.C_drewN ?_ _) | (with_reducible refine Kd.C_drew ?_)))
  (case side2 => exact (Kd.R_reads' HO326.out).2.1)
  (case side3 => repeat (first | exact (Kd.R_reads' HO329.out).2.2 | (with_reducible refine Kd.C_alloc ?_ _) | (with_reducible refine Kd.C_drewN ?_ _) | (with_reducible refine Kd.C_drew ?_)))
  (case side4 => exact (Kd.R_reads' HO329.out).2.1)
  rintro e w20 ⟨v331, rfl, ho0, hb⟩
  refine ⟨_, rfl, ?_⟩
  have n0_ := Aside0.mk (Kd.R_elder' (by (with_reducible repeat (first | apply Kd.R_alloc | apply Kd.R_drewN | apply Kd.R_drew)); exact HO326.out) (Kd.R_base ho0) hb)
  have n1_ := Aside0.mk (Kd.R_elder' (by (with_reducible repeat (first | apply Kd.R_alloc | apply Kd.R_drewN | apply Kd.R_drew)); exact HO329.out) (Kd.R_base ho0) hb)
  have n2_ := Aside0.mk (Kd.R_lower (Kd.R_new' (Kd.R_new' ho0 (Kd.R_lt (by (with_reducible repeat (first | apply Kd.R_alloc | apply Kd.R_drewN | apply Kd.R_drew)); exact HO326.out))) (Kd.R_lt (by (with_reducible repeat (first | apply Kd.R_alloc | apply Kd.R_drewN | apply Kd.R_drew)); exact HO329.out))) (bZ (by repeat (first | (with_reducible first | exact HB.out | apply pA | apply pN | apply p1 | refine pS ?_ GE321.out | refine pS ?_ GE322.out | refine pS ?_ GE323.out) | exact HB.out))))
  have n3_ := Aside0.mk (bB3 BK321.out hb)
  have n4_ := Aside0.mk (bB3 BK322.out hb)
  have n5_ := Aside0.mk (bB3 BK323.out hb)
  have n6_ := Aside0.mk (bS3 HB.out hb)
  clear HO326
  clear HO329
  clear BK321
  clear BK322
  clear BK323
  clear HB
  have HO326 := n0_
  have HO329 := n1_
  have HO332 := n2_
  have BK321 := n3_
  have BK322 := n4_
  have BK323 := n5_
  have HB := n6_
  clear n0_ n1_ n2_ n3_ n4_ n5_ n6_
  (try clear hb)
  (try clear hb2)
  (try clear hk)
  (try clear hi)
  (try clear ho0)
  refine hK.out _ _ ⟨(blk_cell BK321.out 0).trans rfl, (blk_cell BK321.out 1).trans rfl, (blk_cell BK322.out 0).trans rfl, (blk_cell BK322.out 1).trans rfl⟩ (fun hHeld => ?_)
  clear hK K
  refine norm_ (a' := ?_) ?_ ?_
  rotate_left
  · show Act.put _ (some 10) _ = _
    simp only [Act.put, List.setIfInBounds_toArray, List.set_cons_zero, List.set_cons_succ, i64_w, i32_w]
    rfl
  refine one_ (i := 5) (N := some 12) #[true, true, true, true, true, true, false, false] rfl rfl (one_of HT_.out (by kernel_rfl)) (by decide) (fun K hK => ?_)
  refine goes_ Try.func75 (by kernel_rfl) rfl #[.agg #[.int .u64 a1_0, .int .u64 a1_1]] (by rfl) rfl rfl (by (try simp only [List.map_toArray, List.map_cons, List.map_nil]); first | done | rfl | (simp only [List.length_drop, List.length_take]; rfl)) ?_
  with_reducible refine (vernierref02_Of.calls k a1_0 a1_1 t333 _ A6.out).mono ?_
  rintro e w21 ⟨v334, rfl, ho0, hb⟩
  refine ⟨_, rfl, ?_⟩
  have n0_ := Aside0.mk (Kd.R_elder' (by (with_reducible repeat (first | apply Kd.R_alloc | apply Kd.R_drewN | apply Kd.R_drew)); exact HO326.out) (Kd.R_base ho0) hb)
  have n1_ := Aside0.mk (Kd.R_elder' (by (with_reducible repeat (first | apply Kd.R_alloc | apply Kd.R_drewN | apply Kd.R_drew)); exact HO329.out) (Kd.R_base ho0) hb)
  have n2_ := Aside0.mk (Kd.R_elder' (by (with_reducible repeat (first | apply Kd.R_alloc | apply Kd.R_drewN | apply Kd.R_drew)); exact HO332.out) (Kd.R_base ho0) hb)
  have n3_ := Aside0.mk (Kd.R_lower (Kd.R_new' (Kd.R_new' (Kd.R_new' ho0 (Kd.R_lt (by (with_reducible repeat (first | apply Kd.R_alloc | apply Kd.R_drewN | apply Kd.R_drew)); exact HO326.out))) (Kd.R_lt (by (with_reducible repeat (first | apply Kd.R_alloc | apply Kd.R_drewN | apply Kd.R_drew)); exact HO329.out))) (Kd.R_lt (by (with_reducible repeat (first | apply Kd.R_alloc | apply Kd.R_drewN | apply Kd.R_drew)); exact HO332.out))) (bZ (by repeat (first | (with_reducible first | exact HB.out | apply pA | apply pN | apply p1 | refine pS ?_ GE321.out | refine pS ?_ GE322.out | refine pS ?_ GE323.out) | exact HB.out))))
  have n4_ := Aside0.mk (bB3 BK321.out hb)
  have n5_ := Aside0.mk (bB3 BK322.out hb)
  have n6_ := Aside0.mk (bB3 BK323.out hb)
  have n7_ := Aside0.mk (bS3 HB.out hb)
  clear HO326
  clear HO329
  clear HO332
  clear BK321
  clear BK322
  clear BK323
  clear HB
  have HO326 := n0_
  have HO329 := n1_
  have HO332 := n2_
  have HO335 := n3_
  have BK321 := n4_
  have BK322 := n5_
  have BK323 := n6_
  have HB := n7_
  clear n0_ n1_ n2_ n3_ n4_ n5_ n6_ n7_
  (try clear hb)
  (try clear hb2)
  (try clear hk)
  (try clear hi)
  (try clear ho0)
  obtain ⟨Ao22, co22, eo22⟩ := Kd.R_slice HO332.out
  (first | subst eo22 | (injection eo22 with f1_ f2_ f3_; have f4_ := f1_.symm; have f5_ := f3_.symm; clear f1_ f2_ f3_; subst f4_; subst f5_))
  obtain ⟨Ao23, co23, eo23⟩ := Kd.R_slice HO335.out
  (first | subst eo23 | (injection eo23 with f1_ f2_ f3_; have f4_ := f1_.symm; have f5_ := f3_.symm; clear f1_ f2_ f3_; subst f4_; subst f5_))
  refine hK.out _ _ ⟨(blk_cell BK321.out 0).trans rfl, (blk_cell BK321.out 1).trans rfl, (blk_cell BK322.out 0).trans rfl, (blk_cell BK322.out 1).trans rfl⟩ (fun hHeld => ?_)
  clear hK K
  refine norm_ (a' := ?_) ?_ ?_
  rotate_left
  · show Act.put _ (some 12) _ = _
    simp only [Act.put, List.setIfInBounds_toArray, List.set_cons_zero, List.set_cons_succ, i64_w, i32_w]
    rfl
  refine one_ (i := 6) (N := some 13) #[true, true, true, true, true, true, true, false] rfl rfl (one_of HT_.out (by kernel_rfl)) (by decide) (fun K hK => ?_)
  refine goes_ Try.func80 (by kernel_rfl) rfl #[.slice Ao22 t330.length co22, .slice Ao23 t333.length co23] (by rfl) rfl rfl (by (try simp only [List.map_toArray, List.map_cons, List.map_nil]); first | done | rfl | (simp only [List.length_drop, List.length_take]; rfl)) ?_
  with_reducible refine (vernierref00_Sub.calls k _ _ t330 _ _ t333 t336 _ ?side1 ?side2 ?side3 ?side4 A7.out).mono ?_
  (case side1 => repeat (first | exact (Kd.R_reads' HO332.out).2.2 | (with_reducible refine Kd.C_alloc ?_ _) | (with_reducible refine Kd.C_drewN ?_ _) | (with_reducible refine Kd.C_drew ?_)))
  (case side2 => exact (Kd.R_reads' HO332.out).2.1)
  (case side3 => repeat (first | exact (Kd.R_reads' HO335.out).2.2 | (with_reducible refine Kd.C_alloc ?_ _) | (with_reducible refine Kd.C_drewN ?_ _) | (with_reducible refine Kd.C_drew ?_)))
  (case side4 => exact (Kd.R_reads' HO335.out).2.1)
  rintro e w24 ⟨v337, rfl, ho0, hb⟩
  refine ⟨_, rfl, ?_⟩
  have n0_ := Aside0.mk (Kd.R_elder' (by (with_reducible repeat (first | apply Kd.R_alloc | apply Kd.R_drewN | apply Kd.R_drew)); exact HO326.out) (Kd.R_base ho0) hb)
  have n1_ := Aside0.mk (Kd.R_elder' (by (with_reducible repeat (first | apply Kd.R_alloc | apply Kd.R_drewN | apply Kd.R_drew)); exact HO329.out) (Kd.R_base ho0) hb)
  have n2_ := Aside0.mk (Kd.R_elder' (by (with_reducible repeat (first | apply Kd.R_alloc | apply Kd.R_drewN | apply Kd.R_drew)); exact HO332.out) (Kd.R_base ho0) hb)
  have n3_ := Aside0.mk (Kd.R_elder' (by (with_reducible repeat (first | apply Kd.R_alloc | apply Kd.R_drewN | apply Kd.R_drew)); exact HO335.out) (Kd.R_base ho0) hb)
  have n4_ := Aside0.mk (Kd.R_lower (Kd.R_new' (Kd.R_new' (Kd.R_new' (Kd.R_new' ho0 (Kd.R_lt (by (with_reducible repeat (first | apply Kd.R_alloc | apply Kd.R_drewN | apply Kd.R_drew)); exact HO326.out))) (Kd.R_lt (by (with_reducible repeat (first | apply Kd.R_alloc | apply Kd.R_drewN | apply Kd.R_drew)); exact HO329.out))) (Kd.R_lt (by (with_reducible repeat (first | apply Kd.R_alloc | apply Kd.R_drewN | apply Kd.R_drew)); exact HO332.out))) (Kd.R_lt (by (with_reducible repeat (first | apply Kd.R_alloc | apply Kd.R_drewN | apply Kd.R_drew)); exact HO335.out))) (bZ (by repeat (first | (with_reducible first | exact HB.out | apply pA | apply pN | apply p1 | refine pS ?_ GE321.out | refine pS ?_ GE322.out | refine pS ?_ GE323.out) | exact HB.out))))
  have n5_ := Aside0.mk (bB3 BK321.out hb)
  have n6_ := Aside0.mk (bB3 BK322.out hb)
  have n7_ := Aside0.mk (bB3 BK323.out hb)
  have n8_ := Aside0.mk (bS3 HB.out hb)
  clear HO326
  clear HO329
  clear HO332
  clear HO335
  clear BK321
  clear BK322
  clear BK323
  clear HB
  have HO326 := n0_
  have HO329 := n1_
  have HO332 := n2_
  have HO335 := n3_
  have HO338 := n4_
  have BK321 := n5_
  have BK322 := n6_
  have BK323 := n7_
  have HB := n8_
  clear n0_ n1_ n2_ n3_ n4_ n5_ n6_ n7_ n8_
  (try clear hb)
  (try clear hb2)
  (try clear hk)
  (try clear hi)
  (try clear ho0)
  refine hK.out _ _ ⟨(blk_cell BK321.out 0).trans rfl, (blk_cell BK321.out 1).trans rfl, (blk_cell BK322.out 0).trans rfl, (blk_cell BK322.out 1).trans rfl⟩ (fun hHeld => ?_)
  clear hK K
  refine norm_ (a' := ?_) ?_ ?_
  rotate_left
  · show Act.put _ (some 13) _ = _
    simp only [Act.put, List.setIfInBounds_toArray, List.set_cons_zero, List.set_cons_succ, i64_w, i32_w]
    rfl
  refine pure_ (i := 7) (N := some 6) (v := ?_) (a' := ?_) #[true, true, true, true, true, true, true, true] rfl rfl (any_of HT_.out (by kernel_rfl)) (fun _ _ _ h => h) (Or.inl ⟨by rfl, ?_⟩) ?_ ?_
  rotate_left
  · intro w'
    go_simp
    with_reducible rfl
  rotate_left
  · simp only [Act.put, List.setIfInBounds_toArray, List.set_cons_zero, List.set_cons_succ, i64_w, i32_w]
    rfl
  refine done_ (done_of HT_.out (by kernel_rfl)) ?_
  try go_wp2
  have n0_ := Aside0.mk (Kd.R_drew HO326.out)
  have n1_ := Aside0.mk (Kd.R_drew HO329.out)
  have n2_ := Aside0.mk (Kd.R_drew HO332.out)
  have n3_ := Aside0.mk (Kd.R_drew HO335.out)
  have n4_ := Aside0.mk (Kd.R_drew HO338.out)
  have n5_ := Aside0.mk (bD BK321.out)
  have n6_ := Aside0.mk (bD BK322.out)
  have n7_ := Aside0.mk (bD BK323.out)
  have n8_ := Aside0.mk (p1 HB.out)
  clear HO326
  clear HO329
  clear HO332
  clear HO335
  clear HO338
  clear BK321
  clear BK322
  clear BK323
  clear HB
  have HO326 := n0_
  have HO329 := n1_
  have HO332 := n2_
  have HO335 := n3_
  have HO338 := n4_
  have BK321 := n5_
  have BK322 := n6_
  have BK323 := n7_
  have HB := n8_
  clear n0_ n1_ n2_ n3_ n4_ n5_ n6_ n7_ n8_
  obtain ⟨Ao26, co26, eo26⟩ := Kd.R_slice HO338.out
  (first | subst eo26 | (injection eo26 with f1_ f2_ f3_; have f4_ := f1_.symm; have f5_ := f3_.symm; clear f1_ f2_ f3_; subst f4_; subst f5_))
  refine start_ (n := 10) (S := fun w' => w'.cell? ⟨gb321, 0, none⟩ = some (.int .u64 a0_0) ∧ w'.cell? ⟨gb321, 1, none⟩ = some (.int .u64 a0_1) ∧ w'.cell? ⟨gb322, 0, none⟩ = some (.int .u64 a1_0) ∧ w'.cell? ⟨gb322, 1, none⟩ = some (.int .u64 a1_1)) (ds := []) #[false, false, false, false, false, false, false, false, false, false] (by kernel_rfl) rfl rfl ⟨(blk_cell BK321.out 0).trans rfl, (blk_cell BK321.out 1).trans rfl, (blk_cell BK322.out 0).trans rfl, (blk_cell BK322.out 1).trans rfl⟩ (fun hHeld => ?_); refine with_tabW vernierref02_Sub.tab2 vernierref02_Sub.bits2 (fun HT_ HW_ => ?_)
  generalize w24.drew = w25 at HO326 HO329 HO332 HO335 HO338 BK321 BK322 BK323 HB hHeld ⊢
  refine pure_ (i := 0) (N := some 14) (v := ?_) (a' := ?_) #[true, false, false, false, false, false, false, false, false, false] rfl rfl (any_of HT_.out (by kernel_rfl)) (fun _ _ _ h => h) (Or.inl ⟨by rfl, ?_⟩) ?_ ?_
  rotate_left
  · intro w'
    go_simp
    with_reducible rfl
  rotate_left
  · simp only [Act.put, List.setIfInBounds_toArray, List.set_cons_zero, List.set_cons_succ, i64_w, i32_w]
    rfl
  refine take_ (i := 2) (N := some 16) (v := ?_) (a' := ?_) #[true, false, true, false, false, false, false, false, false, false] rfl rfl (take_ofW HT_.out HW_.out (by kernel_rfl)) (fun _ _ _ h => h) (Or.inl ⟨by rfl, ?_⟩) hHeld ?_ ?_
  rotate_left
  · rintro w' ⟨s0, s1, s2, s3⟩
    go_simp
    with_reducible rfl
  rotate_left
  · simp only [Act.put, List.setIfInBounds_toArray, List.set_cons_zero, List.set_cons_succ, i64_w, i32_w]
    rfl
  refine take_ (i := 4) (N := some 18) (v := ?_) (a' := ?_) #[true, false, true, false, true, false, false, false, false, false] rfl rfl (take_ofW HT_.out HW_.out (by kernel_rfl)) (fun _ _ _ h => h) (Or.inl ⟨by rfl, ?_⟩) hHeld ?_ ?_
  rotate_left
  · rintro w' ⟨s0, s1, s2, s3⟩
    go_simp
    with_reducible rfl
  rotate_left
  · simp only [Act.put, List.setIfInBounds_toArray, List.set_cons_zero, List.set_cons_succ, i64_w, i32_w]
    rfl
  refine one_ (i := 1) (N := some 15) #[true, true, true, false, true, false, false, false, false, false] rfl rfl (one_of HT_.out (by kernel_rfl)) (by decide) (fun K hK => ?_)
  refine goes_ Try.func68 (by kernel_rfl) rfl #[.slice Ao26 t336.length co26] (by rfl) rfl rfl (by (try simp only [List.map_toArray, List.map_cons, List.map_nil]); first | done | rfl | (simp only [List.length_drop, List.length_take]; rfl)) ?_
  with_reducible refine (vernierref02_Told.calls k _ _ t336 t339 t340 _ ?side1 ?side2 A8.out).mono ?_
  (case side1 => repeat (first | exact (Kd.R_reads' HO338.out).2.2 | (with_reducible refine Kd.C_alloc ?_ _) | (with_reducible refine Kd.C_drewN ?_ _) | (with_reducible refine Kd.C_drew ?_)))
  (case side2 => exact (Kd.R_reads' HO338.out).2.1)
  rintro e w27 ⟨rfl, hb⟩
  refine ⟨_, rfl, ?_⟩
  have n0_ := Aside0.mk (Kd.R_below (by (with_reducible repeat (first | apply Kd.R_alloc | apply Kd.R_drewN | apply Kd.R_drew)); exact HO326.out) hb)
  have n1_ := Aside0.mk (Kd.R_below (by (with_reducible repeat (first | apply Kd.R_alloc | apply Kd.R_drewN | apply Kd.R_drew)); exact HO329.out) hb)
  have n2_ := Aside0.mk (Kd.R_below (by (with_reducible repeat (first | apply Kd.R_alloc | apply Kd.R_drewN | apply Kd.R_drew)); exact HO332.out) hb)
  have n3_ := Aside0.mk (Kd.R_below (by (with_reducible repeat (first | apply Kd.R_alloc | apply Kd.R_drewN | apply Kd.R_drew)); exact HO335.out) hb)
  have n4_ := Aside0.mk (Kd.R_below (by (with_reducible repeat (first | apply Kd.R_alloc | apply Kd.R_drewN | apply Kd.R_drew)); exact HO338.out) hb)
  have n5_ := Aside0.mk (bB3 BK321.out hb)
  have n6_ := Aside0.mk (bB3 BK322.out hb)
  have n7_ := Aside0.mk (bB3 BK323.out hb)
  have n8_ := Aside0.mk (bS3 HB.out hb)
  clear HO326
  clear HO329
  clear HO332
  clear HO335
  clear HO338
  clear BK321
  clear BK322
  clear BK323
  clear HB
  have HO326 := n0_
  have HO329 := n1_
  have HO332 := n2_
  have HO335 := n3_
  have HO338 := n4_
  have BK321 := n5_
  have BK322 := n6_
  have BK323 := n7_
  have HB := n8_
  clear n0_ n1_ n2_ n3_ n4_ n5_ n6_ n7_ n8_
  (try clear hb)
  (try clear hb2)
  (try clear hk)
  (try clear hi)
  refine hK.out _ _ ⟨(blk_cell BK321.out 0).trans rfl, (blk_cell BK321.out 1).trans rfl, (blk_cell BK322.out 0).trans rfl, (blk_cell BK322.out 1).trans rfl⟩ (fun hHeld => ?_)
  clear hK K
  refine norm_ (a' := ?_) ?_ ?_
  rotate_left
  · show Act.put _ (some 15) _ = _
    simp only [Act.put, List.setIfInBounds_toArray, List.set_cons_zero, List.set_cons_succ, i64_w, i32_w]
    rfl
  refine one_ (i := 3) (N := some 17) #[true, true, true, true, true, false, false, false, false, false] rfl rfl (one_of HT_.out (by kernel_rfl)) (by decide) (fun K hK => ?_)
  refine goes_ Try.func75 (by kernel_rfl) rfl #[.agg #[.int .u64 a0_0, .int .u64 a0_1]] (by rfl) rfl rfl (by (try simp only [List.map_toArray, List.map_cons, List.map_nil]); first | done | rfl | (simp only [List.length_drop, List.length_take]; rfl)) ?_
  with_reducible refine (vernierref02_Of.calls k a0_0 a0_1 t341 _ A9.out).mono ?_
  rintro e w28 ⟨v342, rfl, ho0, hb⟩
  refine ⟨_, rfl, ?_⟩
  have n0_ := Aside0.mk (Kd.R_elder' (by (with_reducible repeat (first | apply Kd.R_alloc | apply Kd.R_drewN | apply Kd.R_drew)); exact HO326.out) (Kd.R_base ho0) hb)
  have n1_ := Aside0.mk (Kd.R_elder' (by (with_reducible repeat (first | apply Kd.R_alloc | apply Kd.R_drewN | apply Kd.R_drew)); exact HO329.out) (Kd.R_base ho0) hb)
  have n2_ := Aside0.mk (Kd.R_elder' (by (with_reducible repeat (first | apply Kd.R_alloc | apply Kd.R_drewN | apply Kd.R_drew)); exact HO332.out) (Kd.R_base ho0) hb)
  have n3_ := Aside0.mk (Kd.R_elder' (by (with_reducible repeat (first | apply Kd.R_alloc | apply Kd.R_drewN | apply Kd.R_drew)); exact HO335.out) (Kd.R_base ho0) hb)
  have n4_ := Aside0.mk (Kd.R_elder' (by (with_reducible repeat (first | apply Kd.R_alloc | apply Kd.R_drewN | apply Kd.R_drew)); exact HO338.out) (Kd.R_base ho0) hb)
  have n5_ := Aside0.mk (Kd.R_lower (Kd.R_new' (Kd.R_new' (Kd.R_new' (Kd.R_new' (Kd.R_new' ho0 (Kd.R_lt (by (with_reducible repeat (first | apply Kd.R_alloc | apply Kd.R_drewN | apply Kd.R_drew)); exact HO326.out))) (Kd.R_lt (by (with_reducible repeat (first | apply Kd.R_alloc | apply Kd.R_drewN | apply Kd.R_drew)); exact HO329.out))) (Kd.R_lt (by (with_reducible repeat (first | apply Kd.R_alloc | apply Kd.R_drewN | apply Kd.R_drew)); exact HO332.out))) (Kd.R_lt (by (with_reducible repeat (first | apply Kd.R_alloc | apply Kd.R_drewN | apply Kd.R_drew)); exact HO335.out))) (Kd.R_lt (by (with_reducible repeat (first | apply Kd.R_alloc | apply Kd.R_drewN | apply Kd.R_drew)); exact HO338.out))) (bZ (by repeat (first | (with_reducible first | exact HB.out | apply pA | apply pN | apply p1 | refine pS ?_ GE321.out | refine pS ?_ GE322.out | refine pS ?_ GE323.out) | exact HB.out))))
  have n6_ := Aside0.mk (bB3 BK321.out hb)
  have n7_ := Aside0.mk (bB3 BK322.out hb)
  have n8_ := Aside0.mk (bB3 BK323.out hb)
  have n9_ := Aside0.mk (bS3 HB.out hb)
  clear HO326
  clear HO329
  clear HO332
  clear HO335
  clear HO338
  clear BK321
  clear BK322
  clear BK323
  clear HB
  have HO326 := n0_
  have HO329 := n1_
  have HO332 := n2_
  have HO335 := n3_
  have HO338 := n4_
  have HO343 := n5_
  have BK321 := n6_
  have BK322 := n7_
  have BK323 := n8_
  have HB := n9_
  clear n0_ n1_ n2_ n3_ n4_ n5_ n6_ n7_ n8_ n9_
  (try clear hb)
  (try clear hb2)
  (try clear hk)
  (try clear hi)
  (try clear ho0)
  refine hK.out _ _ ⟨(blk_cell BK321.out 0).trans rfl, (blk_cell BK321.out 1).trans rfl, (blk_cell BK322.out 0).trans rfl, (blk_cell BK322.out 1).trans rfl⟩ (fun hHeld => ?_)
  clear hK K
  refine norm_ (a' := ?_) ?_ ?_
  rotate_left
  · show Act.put _ (some 17) _ = _
    simp only [Act.put, List.setIfInBounds_toArray, List.set_cons_zero, List.set_cons_succ, i64_w, i32_w]
    rfl
  refine one_ (i := 5) (N := some 19) #[true, true, true, true, true, true, false, false, false, false] rfl rfl (one_of HT_.out (by kernel_rfl)) (by decide) (fun K hK => ?_)
  refine goes_ Try.func75 (by kernel_rfl) rfl #[.agg #[.int .u64 a1_0, .int .u64 a1_1]] (by rfl) rfl rfl (by (try simp only [List.map_toArray, List.map_cons, List.map_nil]); first | done | rfl | (simp only [List.length_drop, List.length_take]; rfl)) ?_
  with_reducible refine (vernierref02_Of.calls k a1_0 a1_1 t344 _ A10.out).mono ?_
  rintro e w29 ⟨v345, rfl, ho0, hb⟩
  refine ⟨_, rfl, ?_⟩
  have n0_ := Aside0.mk (Kd.R_elder' (by (with_reducible repeat (first | apply Kd.R_alloc | apply Kd.R_drewN | apply Kd.R_drew)); exact HO326.out) (Kd.R_base ho0) hb)
  have n1_ := Aside0.mk (Kd.R_elder' (by (with_reducible repeat (first | apply Kd.R_alloc | apply Kd.R_drewN | apply Kd.R_drew)); exact HO329.out) (Kd.R_base ho0) hb)
  have n2_ := Aside0.mk (Kd.R_elder' (by (with_reducible repeat (first | apply Kd.R_alloc | apply Kd.R_drewN | apply Kd.R_drew)); exact HO332.out) (Kd.R_base ho0) hb)
  have n3_ := Aside0.mk (Kd.R_elder' (by (with_reducible repeat (first | apply Kd.R_alloc | apply Kd.R_drewN | apply Kd.R_drew)); exact HO335.out) (Kd.R_base ho0) hb)
  have n4_ := Aside0.mk (Kd.R_elder' (by (with_reducible repeat (first | apply Kd.R_alloc | apply Kd.R_drewN | apply Kd.R_drew)); exact HO338.out) (Kd.R_base ho0) hb)
  have n5_ := Aside0.mk (Kd.R_elder' (by (with_reducible repeat (first | apply Kd.R_alloc | apply Kd.R_drewN | apply Kd.R_drew)); exact HO343.out) (Kd.R_base ho0) hb)
  have n6_ := Aside0.mk (Kd.R_lower (Kd.R_new' (Kd.R_new' (Kd.R_new' (Kd.R_new' (Kd.R_new' (Kd.R_new' ho0 (Kd.R_lt (by (with_reducible repeat (first | apply Kd.R_alloc | apply Kd.R_drewN | apply Kd.R_drew)); exact HO326.out))) (Kd.R_lt (by (with_reducible repeat (first | apply Kd.R_alloc | apply Kd.R_drewN | apply Kd.R_drew)); exact HO329.out))) (Kd.R_lt (by (with_reducible repeat (first | apply Kd.R_alloc | apply Kd.R_drewN | apply Kd.R_drew)); exact HO332.out))) (Kd.R_lt (by (with_reducible repeat (first | apply Kd.R_alloc | apply Kd.R_drewN | apply Kd.R_drew)); exact HO335.out))) (Kd.R_lt (by (with_reducible repeat (first | apply Kd.R_alloc | apply Kd.R_drewN | apply Kd.R_drew)); exact HO338.out))) (Kd.R_lt (by (with_reducible repeat (first | apply Kd.R_alloc | apply Kd.R_drewN | apply Kd.R_drew)); exact HO343.out))) (bZ (by repeat (first | (with_reducible first | exact HB.out | apply pA | apply pN | apply p1 | refine pS ?_ GE321.out | refine pS ?_ GE322.out | refine pS ?_ GE323.out) | exact HB.out))))
  have n7_ := Aside0.mk (bB3 BK321.out hb)
  have n8_ := Aside0.mk (bB3 BK322.out hb)
  have n9_ := Aside0.mk (bB3 BK323.out hb)
  have n10_ := Aside0.mk (bS3 HB.out hb)
  clear HO326
  clear HO329
  clear HO332
  clear HO335
  clear HO338
  clear HO343
  clear BK321
  clear BK322
  clear BK323
  clear HB
  have HO326 := n0_
  have HO329 := n1_
  have HO332 := n2_
  have HO335 := n3_
  have HO338 := n4_
  have HO343 := n5_
  have HO346 := n6_
  have BK321 := n7_
  have BK322 := n8_
  have BK323 := n9_
  have HB := n10_
  clear n0_ n1_ n2_ n3_ n4_ n5_ n6_ n7_ n8_ n9_ n10_
  (try clear hb)
  (try clear hb2)
  (try clear hk)
  (try clear hi)
  (try clear ho0)
  obtain ⟨Ao30, co30, eo30⟩ := Kd.R_slice HO343.out
  (first | subst eo30 | (injection eo30 with f1_ f2_ f3_; have f4_ := f1_.symm; have f5_ := f3_.symm; clear f1_ f2_ f3_; subst f4_; subst f5_))
  obtain ⟨Ao31, co31, eo31⟩ := Kd.R_slice HO346.out
  (first | subst eo31 | (injection eo31 with f1_ f2_ f3_; have f4_ := f1_.symm; have f5_ := f3_.symm; clear f1_ f2_ f3_; subst f4_; subst f5_))
  refine hK.out _ _ ⟨(blk_cell BK321.out 0).trans rfl, (blk_cell BK321.out 1).trans rfl, (blk_cell BK322.out 0).trans rfl, (blk_cell BK322.out 1).trans rfl⟩ (fun hHeld => ?_)
  clear hK K
  refine norm_ (a' := ?_) ?_ ?_
  rotate_left
  · show Act.put _ (some 19) _ = _
    simp only [Act.put, List.setIfInBounds_toArray, List.set_cons_zero, List.set_cons_succ, i64_w, i32_w]
    rfl
  refine one_ (i := 6) (N := some 20) #[true, true, true, true, true, true, true, false, false, false] rfl rfl (one_of HT_.out (by kernel_rfl)) (by decide) (fun K hK => ?_)
  refine goes_ Try.func74 (by kernel_rfl) rfl #[.slice Ao30 t341.length co30, .slice Ao31 t344.length co31] (by rfl) rfl rfl (by (try simp only [List.map_toArray, List.map_cons, List.map_nil]); first | done | rfl | (simp only [List.length_drop, List.length_take]; rfl)) ?_
  with_reducible refine (vernierref00_Cmp.calls k _ _ t341 _ _ t344 t347 _ ?side1 ?side2 ?side3 ?side4 A11.out).mono ?_
  (case side1 => repeat (first | exact (Kd.R_reads' HO343.out).2.2 | (with_reducible refine Kd.C_alloc ?_ _) | (with_reducible refine Kd.C_drewN ?_ _) | (with_reducible refine Kd.C_drew ?_)))
  (case side2 => exact (Kd.R_reads' HO343.out).2.1)
  (case side3 => repeat (first | exact (Kd.R_reads' HO346.out).2.2 | (with_reducible refine Kd.C_alloc ?_ _) | (with_reducible refine Kd.C_drewN ?_ _) | (with_reducible refine Kd.C_drew ?_)))
  (case side4 => exact (Kd.R_reads' HO346.out).2.1)
  rintro e w' ⟨rfl, ⟨nd, rfl⟩⟩
  refine ⟨_, rfl, ?_⟩
  refine hK.out _ _ ⟨(blk_cell BK321.out 0).trans rfl, (blk_cell BK321.out 1).trans rfl, (blk_cell BK322.out 0).trans rfl, (blk_cell BK322.out 1).trans rfl⟩ (fun hHeld => ?_)
  clear hK K
  refine norm_ (a' := ?_) ?_ ?_
  rotate_left
  · show Act.put _ (some 20) _ = _
    simp only [Act.put, List.setIfInBounds_toArray, List.set_cons_zero, List.set_cons_succ, i64_w, i32_w]
    rfl
  refine pure_ (i := 7) (N := some 21) (v := ?_) (a' := ?_) #[true, true, true, true, true, true, true, true, false, false] rfl rfl (any_of HT_.out (by kernel_rfl)) (fun _ _ _ h => h) (Or.inl ⟨by rfl, ?_⟩) ?_ ?_
  rotate_left
  · intro w'
    go_simp
    with_reducible rfl
  rotate_left
  · simp only [Act.put, List.setIfInBounds_toArray, List.set_cons_zero, List.set_cons_succ, i64_w, i32_w]
    rfl
  refine one_ (i := 8) (N := none) #[true, true, true, true, true, true, true, true, true, false] rfl rfl (one_of HT_.out (by kernel_rfl)) (by decide) (fun K hK => ?_)
  have hs32 : w29.cell? ⟨gb323, 0, none⟩ = some (.int .u64 0) := (blk_cell BK323.out 0).trans rfl
  have hfs32 := blk_frozen BK323.out 0
  have hns32_0 := NB321_323.out
  have hns32_1 := NB322_323.out
  have hms32_0 := NB323_321.out
  have hms32_1 := NB323_322.out
  have hs33 : w29.cell? ⟨gb323, 1, none⟩ = some (.int .u64 0) := (blk_cell BK323.out 1).trans rfl
  have hfs33 := blk_frozen BK323.out 1
  have hns33_0 := NB321_323.out
  have hns33_1 := NB322_323.out
  have hms33_0 := NB323_321.out
  have hms33_1 := NB323_322.out
  refine skip_ (w1 := ?_) (by rfl) rfl ?_ ?_
  rotate_left
  · go_simp
    rfl
  refine hK.out _ _ ⟨((cell_far (p := ⟨gb323, _, none⟩) NB321_323.out _).trans (((cell_far (p := ⟨gb323, _, none⟩) NB321_323.out _).trans (hHeld.1)))), ((cell_far (p := ⟨gb323, _, none⟩) NB321_323.out _).trans (((cell_far (p := ⟨gb323, _, none⟩) NB321_323.out _).trans (hHeld.2.1)))), ((cell_far (p := ⟨gb323, _, none⟩) NB322_323.out _).trans (((cell_far (p := ⟨gb323, _, none⟩) NB322_323.out _).trans (hHeld.2.2.1)))), ((cell_far (p := ⟨gb323, _, none⟩) NB322_323.out _).trans (((cell_far (p := ⟨gb323, _, none⟩) NB322_323.out _).trans (hHeld.2.2.2))))⟩ (fun hHeld => ?_)
  clear hK K
  refine pure_ (i := 9) (N := some 5) (v := ?_) (a' := ?_) #[true, true, true, true, true, true, true, true, true, true] rfl rfl (any_of HT_.out (by kernel_rfl)) (fun _ _ _ h => h) (Or.inl ⟨by rfl, ?_⟩) ?_ ?_
  rotate_left
  · intro w'
    go_simp
    with_reducible rfl
  rotate_left
  · simp only [Act.put, List.setIfInBounds_toArray, List.set_cons_zero, List.set_cons_succ, i64_w, i32_w]
    rfl
  refine done_ (done_of HT_.out (by kernel_rfl)) ?_
  try go_wp2
  refine bodyPost_ret (results_ct rfl _ _ gb323 25 #[.int .u64 t339, .int .u64 t340] (0, 0) _ rfl (by (with_reducible repeat (first | refine bN ?_ _ | refine bD ?_ | refine bA ?_ _)); refine blk_put (cs := #[.int .u64 t339, .int .u64 0]) ?_ 1 _ rfl; (with_reducible repeat (first | refine bN ?_ _ | refine bD ?_ | refine bA ?_ _)); refine blk_put (cs := #[.int .u64 0, .int .u64 0]) ?_ 0 _ rfl; (with_reducible repeat (first | refine bN ?_ _ | refine bD ?_ | refine bA ?_ _)); exact BK323.out) Try.underlying25 rfl (by kernel_rfl)) rfl ?_
  exact ⟨by first | rfl | (simp [errW_none, errW_some] <;> rfl) | (simp [*, errW_none, errW_some] <;> rfl), by repeat (first | (with_reducible first | exact HB.out | apply pA | apply pN | apply p1 | refine pS ?_ GE321.out | refine pS ?_ GE322.out | refine pS ?_ GE323.out) | exact HB.out)⟩

/-! ### vernierref02_Shr: function 50 -/
def vernierref02_Shr.j0 : Nat → Int → Int → Int → Option (Int × Int × Bool × Int)
  | 0, _, _, _ => none
  | k + 1, x1, x500000, x500001 => (vernierref02_Of.f k x500000 x500001).bind fun t501 => ((vernierref00_Shr.f k t501 x1).bind fun t504 => ((vernierref02_Told.f k t504).bind fun bt507 => ((vernierref00_Low.f k t501 x1).bind fun t509 => (some (bt507.1, bt507.2, t509, 0)))))
def vernierref02_Shr.f (k : Nat) (a0_0 : Int) (a0_1 : Int) (a1 : Int) : Option (Int × Int × Bool × Int) := if a1 < 0 then (some (0, 0, false, 1)) else (if a1 > 128 then (vernierref02_Shr.j0 k 128 a0_0 a0_1) else (vernierref02_Shr.j0 k a1 a0_0 a0_1))
theorem vernierref02_Shr.mono_l : ∀ k, (∀ y0 y1 y2, LeO (vernierref02_Shr.j0 k y0 y1 y2) (vernierref02_Shr.j0 (k + 1) y0 y1 y2))
  | 0 => fun _ _ _ r h => by simp [vernierref02_Shr.j0] at h
  | k + 1 => by
    have ih0 := vernierref02_Shr.mono_l k
    · intro y0 y1 y2
      unfold vernierref02_Shr.j0
      repeat' first
      | (with_reducible exact ih0 _ _ _)
      | (with_reducible exact vernierref00_Low.mono _ _ _)
      | (with_reducible exact vernierref00_Shr.mono _ _ _)
      | (with_reducible exact vernierref02_Of.mono _ _ _)
      | (with_reducible exact vernierref02_Told.mono _ _)
      | (with_reducible exact LeO.refl _)
      | (with_reducible exact LeO.none _)
      | (with_reducible refine LeO.ite ?_ ?_)
      | (with_reducible refine LeO.bind ?_ (fun _ => ?_))
      | exact ih0 _ _ _
      | exact vernierref00_Low.mono _ _ _
      | exact vernierref00_Shr.mono _ _ _
      | exact vernierref02_Of.mono _ _ _
      | exact vernierref02_Told.mono _ _
      | exact LeO.none _
      | refine LeO.ite ?_ ?_
      | refine LeO.bind ?_ (fun _ => ?_)
theorem vernierref02_Shr.mono : ∀ a0 a1 a2 k, LeO (vernierref02_Shr.f k a0 a1 a2) (vernierref02_Shr.f (k + 1) a0 a1 a2) := by
  intro a0 a1 a2 k
  have ih0 := vernierref02_Shr.mono_l k
  unfold vernierref02_Shr.f
  repeat' first
      | (with_reducible exact ih0 _ _ _)
      | (with_reducible exact vernierref00_Low.mono _ _ _)
      | (with_reducible exact vernierref00_Shr.mono _ _ _)
      | (with_reducible exact vernierref02_Of.mono _ _ _)
      | (with_reducible exact vernierref02_Told.mono _ _)
      | (with_reducible exact LeO.refl _)
      | (with_reducible exact LeO.none _)
      | (with_reducible refine LeO.ite ?_ ?_)
      | (with_reducible refine LeO.bind ?_ (fun _ => ?_))
      | exact ih0 _ _ _
      | exact vernierref00_Low.mono _ _ _
      | exact vernierref00_Shr.mono _ _ _
      | exact vernierref02_Of.mono _ _ _
      | exact vernierref02_Told.mono _ _
      | exact LeO.none _
      | refine LeO.ite ?_ ?_
      | refine LeO.bind ?_ (fun _ => ?_)
set_option maxHeartbeats 8000000 in
set_option maxRecDepth 100000 in
theorem vernierref02_Shr.calls (k : Nat) (a0_0 : Int) (a0_1 : Int) (a1 : Int) (r1 : Int) (r2 : Int) (r3 : Bool) (r4 : Int) (w : World) (h : vernierref02_Shr.f k a0_0 a0_1 a1 = some (r1, r2, r3, r4)) :
    Calls Try.prog 50 #[.agg #[.int .u64 a0_0, .int .u64 a0_1], .int .i64 a1] w fun e w' => e = .returned (.tuple #[.agg #[.int .u64 r1, .int .u64 r2], .bool r3, .int .i64 r4]) ∧ Below w.heap.size w w' := by
  have hu25 := Try.underlying25
  have HB := Aside0.mk (Below.refl w.heap.size w)
  have H : (if a1 < 0 then (some (0, 0, false, 1)) else (if a1 > 128 then (vernierref02_Shr.j0 k 128 a0_0 a0_1) else (vernierref02_Shr.j0 k a1 a0_0 a0_1))) = some (r1, r2, r3, r4) := h
  clear h
  by_cases c3 : a1 < 0
  · rw [if_pos c3] at H
    have c3b0 : decide (a1 < 0) = true := decide_eq_true c3
    clear c3
    simp only [Option.some.injEq, Prod.mk.injEq] at H
    obtain ⟨rfl, rfl, rfl, rfl⟩ := H
    go_enter Try.func50, Try.ntmps50
    go_wp2_with (first | ((with_reducible refine gD (N := 2) rfl ?_); refine bE3 2 #[.int .u64 a0_0, .int .u64 a0_1] 25 ?hr ?_; (case hr => first | (go_simp; done) | (go_simp; rfl)); intro gb499 hg w4 hbox hb; have n0_ := Aside0.mk (bS3 HB.out hb); have n1_ := Aside0.mk (hbox); have n2_ := Aside0.mk ((bZ3 hg HB.out)); have n3_ := Aside0.mk ((bZ3 hg HB.out)); clear HB; have HB := n0_; have BK499 := n1_; have GW499 := n2_; have GE499 := n3_; clear n0_ n1_ n2_ n3_; clear hb hbox hg) | ((with_reducible refine gD (N := 4) rfl ?_); refine bE3 4 #[.int .u64 0, .int .u64 0] 25 ?hr ?_; (case hr => first | (go_simp; done) | (go_simp; rfl)); intro gb500 hg w5 hbox hb; have n0_ := Aside0.mk (bB3 BK499.out hb); have n1_ := Aside0.mk (bS3 HB.out hb); have n2_ := Aside0.mk (hbox); have n3_ := Aside0.mk ((bZ3 hg HB.out)); have n4_ := Aside0.mk ((bZ3 hg HB.out)); have n5_ := Aside0.mk ((bL3 hg BK499.out)); have n6_ := Aside0.mk ((bG3 hg BK499.out)); clear BK499; clear HB; have BK499 := n0_; have HB := n1_; have BK500 := n2_; have GW500 := n3_; have GE500 := n4_; have NB499_500 := n5_; have NB500_499 := n6_; clear n0_ n1_ n2_ n3_ n4_ n5_ n6_; clear hb hbox hg; have hnb6 := NB500_499.out; have hnc6 := NB499_500.out; have hcz7_0 : w5.cell? ⟨gb500, 0, none⟩ = some (.int .u64 0) := (blk_cell BK500.out 0).trans rfl; have hcz7_1 : w5.cell? ⟨gb500, 1, none⟩ = some (.int .u64 0) := (blk_cell BK500.out 1).trans rfl; have hfz7_0 := blk_frozen BK500.out 0; have hfz7_1 := blk_frozen BK500.out 1))
    refine bodyPost_ret (results_ctt rfl _ _ gb500 25 #[.int .u64 0, .int .u64 0] (0, 0) _ rfl (by (with_reducible repeat (first | refine bN ?_ _ | refine bD ?_ | refine bA ?_ _)); refine blk_put (cs := #[.int .u64 0, .int .u64 0]) ?_ 1 _ rfl; (with_reducible repeat (first | refine bN ?_ _ | refine bD ?_ | refine bA ?_ _)); refine blk_put (cs := #[.int .u64 0, .int .u64 0]) ?_ 0 _ rfl; (with_reducible repeat (first | refine bN ?_ _ | refine bD ?_ | refine bA ?_ _)); exact BK500.out) Try.underlying25 rfl (by kernel_rfl)) rfl ?_
    exact ⟨by first | rfl | (simp [errW_none, errW_some] <;> rfl) | (simp [*, errW_none, errW_some] <;> rfl), by repeat (first | (with_reducible first | exact HB.out | apply pA | apply pN | apply p1 | refine pS ?_ GE499.out | refine pS ?_ GE500.out) | exact HB.out)⟩
  · rw [if_neg c3] at H
    have c3b0 : decide (a1 < 0) = false := decide_eq_false c3
    clear c3
    have HC8 := Aside0.mk H
    clear H
    go_enter Try.func50, Try.ntmps50
    go_upto_if 12 with (first | ((with_reducible refine gD (N := 2) rfl ?_); refine bE3 2 #[.int .u64 a0_0, .int .u64 a0_1] 25 ?hr ?_; (case hr => first | (go_simp; done) | (go_simp; rfl)); intro gb499 hg w9 hbox hb; have n0_ := Aside0.mk (bS3 HB.out hb); have n1_ := Aside0.mk (hbox); have n2_ := Aside0.mk ((bZ3 hg HB.out)); have n3_ := Aside0.mk ((bZ3 hg HB.out)); clear HB; have HB := n0_; have BK499 := n1_; have GW499 := n2_; have GE499 := n3_; clear n0_ n1_ n2_ n3_; clear hb hbox hg) | ((with_reducible refine gD (N := 4) rfl ?_); refine bE3 4 #[.int .u64 0, .int .u64 0] 25 ?hr ?_; (case hr => first | (go_simp; done) | (go_simp; rfl)); intro gb500 hg w10 hbox hb; have n0_ := Aside0.mk (bB3 BK499.out hb); have n1_ := Aside0.mk (bS3 HB.out hb); have n2_ := Aside0.mk (hbox); have n3_ := Aside0.mk ((bZ3 hg HB.out)); have n4_ := Aside0.mk ((bZ3 hg HB.out)); have n5_ := Aside0.mk ((bL3 hg BK499.out)); have n6_ := Aside0.mk ((bG3 hg BK499.out)); clear BK499; clear HB; have BK499 := n0_; have HB := n1_; have BK500 := n2_; have GW500 := n3_; have GE500 := n4_; have NB499_500 := n5_; have NB500_499 := n6_; clear n0_ n1_ n2_ n3_ n4_ n5_ n6_; clear hb hbox hg))
    (try simp only [Act.put, List.setIfInBounds_toArray, List.set_cons_zero, List.set_cons_succ])
    go_cut [1] (fun v1 wc => ∃ (kq : Nat) (x1_7 : Int), v1 = .int .i64 x1_7 ∧ Aside0 (vernierref02_Shr.j0 kq x1_7 a0_0 a0_1 = some (r1, r2, r3, r4)) ∧ Aside0 (kq ≤ k) ∧ Aside0 (wc.heap[gb499]? = some (.cells #[.int .u64 a0_0, .int .u64 a0_1] 25 (0, 0))) ∧ Aside0 (wc.heap[gb500]? = some (.cells #[.int .u64 0, .int .u64 0] 25 (0, 0))) ∧ Aside0 (Below w.heap.size w wc))
    case first =>
      have H := HC8.out
      clear HC8
      by_cases c11 : a1 > 128
      · rw [if_pos c11] at H
        have c11b0 : decide (128 < a1) = true := decide_eq_true c11
        clear c11
        (first | rw [c11b0] | (simp only [i64_w, i32_w]; rw [c11b0]) | skip)
        have H' := Aside0.mk H
        clear H
        go_wp2
        go_meet
        case rel => exact ⟨_, (128), (by first | rfl | (simp; done) | (simp [*]; done)), H', ⟨by first | omega | exact Nat.le_refl _⟩, ⟨by (with_reducible repeat (first | refine bN ?_ _ | refine bD ?_ | refine bA ?_ _)); exact BK499.out⟩, ⟨by (with_reducible repeat (first | refine bN ?_ _ | refine bD ?_ | refine bA ?_ _)); exact BK500.out⟩, ⟨by repeat (first | (with_reducible first | exact HB.out | apply pA | apply pN | apply p1 | refine pS ?_ GE499.out | refine pS ?_ GE500.out) | exact HB.out)⟩⟩
      · rw [if_neg c11] at H
        have c11b0 : decide (128 < a1) = false := decide_eq_false c11
        clear c11
        (first | rw [c11b0] | (simp only [i64_w, i32_w]; rw [c11b0]) | skip)
        have H' := Aside0.mk H
        clear H
        go_wp2
        go_meet
        case rel => exact ⟨_, (a1), (by first | rfl | (simp; done) | (simp [*]; done)), H', ⟨by first | omega | exact Nat.le_refl _⟩, ⟨by (with_reducible repeat (first | refine bN ?_ _ | refine bD ?_ | refine bA ?_ _)); exact BK499.out⟩, ⟨by (with_reducible repeat (first | refine bN ?_ _ | refine bD ?_ | refine bA ?_ _)); exact BK500.out⟩, ⟨by repeat (first | (with_reducible first | exact HB.out | apply pA | apply pN | apply p1 | refine pS ?_ GE499.out | refine pS ?_ GE500.out) | exact HB.out)⟩⟩
    case rest =>
      clear HC8
      try clear c1
      try clear p2
      try clear c3
      try clear c3b0
      try clear c5
      try clear c6
      try clear c11
      try clear c11b0
      try clear hcz7_0
      try clear hcz7_1
      try clear hfz7_0
      try clear hfz7_1
      obtain ⟨kq, x1_7, rfl, HA, HJ7, BK499, BK500, HB⟩ := hcut
      cases kq with
      | zero => exact absurd HA.out (by simp [vernierref02_Shr.j0])
      | succ kj7 =>
        have H := HA.out
        clear HA
        simp only [vernierref02_Shr.j0] at H
        replace H := Option.bind_eq_some_iff.mp H
        obtain ⟨t501, A120, H⟩ := H
        replace H : ((vernierref00_Shr.f kj7 t501 x1_7).bind fun t504 => ((vernierref02_Told.f kj7 t504).bind fun bt507 => ((vernierref00_Low.f kj7 t501 x1_7).bind fun t509 => (some (bt507.1, bt507.2, t509, 0))))) = some (r1, r2, r3, r4) := H
        have A12 := Aside0.mk A120
        clear A120
        replace H := Option.bind_eq_some_iff.mp H
        obtain ⟨t504, A130, H⟩ := H
        replace H : ((vernierref02_Told.f kj7 t504).bind fun bt507 => ((vernierref00_Low.f kj7 t501 x1_7).bind fun t509 => (some (bt507.1, bt507.2, t509, 0)))) = some (r1, r2, r3, r4) := H
        have A13 := Aside0.mk A130
        clear A130
        replace H := Option.bind_eq_some_iff.mp H
        obtain ⟨⟨t507, t508⟩, A140, H⟩ := H
        replace H : ((vernierref00_Low.f kj7 t501 x1_7).bind fun t509 => (some (t507, t508, t509, 0))) = some (r1, r2, r3, r4) := H
        have A14 := Aside0.mk A140
        clear A140
        replace H := Option.bind_eq_some_iff.mp H
        obtain ⟨t509, A150, H⟩ := H
        replace H : (some (t507, t508, t509, 0)) = some (r1, r2, r3, r4) := H
        have A15 := Aside0.mk A150
        clear A150
        simp only [Option.some.injEq, Prod.mk.injEq] at H
        obtain ⟨rfl, rfl, rfl, rfl⟩ := H
        have hnb16 := NB499_500.out
        have hnc16 := NB500_499.out
        have hcz17_0 : wc.cell? ⟨gb499, 0, none⟩ = some (.int .u64 a0_0) := (blk_cell BK499.out 0).trans rfl
        have hcz17_1 : wc.cell? ⟨gb499, 1, none⟩ = some (.int .u64 a0_1) := (blk_cell BK499.out 1).trans rfl
        have hfz17_0 := blk_frozen BK499.out 0
        have hfz17_1 := blk_frozen BK499.out 1
        go_wp2_with (first | ((with_reducible refine gC (f := 75) rfl ?_); refine goesY_ (some 14) Try.func75 #[.agg #[.int .u64 a0_0, .int .u64 a0_1]] ?_; (with_reducible refine (vernierref02_Of.calls kj7 a0_0 a0_1 t501 _ A12.out).mono ?_); rintro e w18 ⟨v502, rfl, ho0, hb⟩; refine ⟨_, rfl, ?_⟩; have n0_ := Aside0.mk (Kd.R_lower ho0 (bZ (by repeat (first | (with_reducible first | exact HB.out | apply pA | apply pN | apply p1 | refine pS ?_ GE499.out | refine pS ?_ GE500.out) | exact HB.out)))); have n1_ := Aside0.mk (bB3 BK499.out hb); have n2_ := Aside0.mk (bB3 BK500.out hb); have n3_ := Aside0.mk (bS3 HB.out hb); clear BK499; clear BK500; clear HB; have HO503 := n0_; have BK499 := n1_; have BK500 := n2_; have HB := n3_; clear n0_ n1_ n2_ n3_; (try clear hb); (try clear hb2); (try clear hk); (try clear hi); (try clear ho0); obtain ⟨Ao19, co19, eo19⟩ := Kd.R_slice HO503.out; subst eo19) | ((with_reducible refine gC (f := 90) rfl ?_); refine goesY_ (some 17) Try.func90 #[.slice Ao19 t501.length co19, .int .i64 x1_7] ?_; (with_reducible refine (vernierref00_Shr.calls kj7 _ _ t501 x1_7 t504 _ ?side1 ?side2 A13.out).mono ?_); (case side1 => repeat (first | exact (Kd.R_reads' HO503.out).2.2 | (with_reducible refine Kd.C_alloc ?_ _) | (with_reducible refine Kd.C_drewN ?_ _) | (with_reducible refine Kd.C_drew ?_))); (case side2 => exact (Kd.R_reads' HO503.out).2.1); rintro e w20 ⟨v505, rfl, ho0, hb⟩; refine ⟨_, rfl, ?_⟩; have n0_ := Aside0.mk (Kd.R_elder' (by (with_reducible repeat (first | apply Kd.R_alloc | apply Kd.R_drewN | apply Kd.R_drew)); exact HO503.out) (Kd.R_base ho0) hb); have n1_ := Aside0.mk (Kd.R_lower (Kd.R_new' ho0 (Kd.R_lt (by (with_reducible repeat (first | apply Kd.R_alloc | apply Kd.R_drewN | apply Kd.R_drew)); exact HO503.out))) (bZ (by repeat (first | (with_reducible first | exact HB.out | apply pA | apply pN | apply p1 | refine pS ?_ GE499.out | refine pS ?_ GE500.out) | exact HB.out)))); have n2_ := Aside0.mk (bB3 BK499.out hb); have n3_ := Aside0.mk (bB3 BK500.out hb); have n4_ := Aside0.mk (bS3 HB.out hb); clear HO503; clear BK499; clear BK500; clear HB; have HO503 := n0_; have HO506 := n1_; have BK499 := n2_; have BK500 := n3_; have HB := n4_; clear n0_ n1_ n2_ n3_ n4_; (try clear hb); (try clear hb2); (try clear hk); (try clear hi); (try clear ho0); obtain ⟨Ao21, co21, eo21⟩ := Kd.R_slice HO506.out; subst eo21) | ((with_reducible refine gC (f := 68) rfl ?_); refine goesY_ (some 18) Try.func68 #[.slice Ao21 t504.length co21] ?_; (with_reducible refine (vernierref02_Told.calls kj7 _ _ t504 t507 t508 _ ?side1 ?side2 A14.out).mono ?_); (case side1 => repeat (first | exact (Kd.R_reads' HO506.out).2.2 | (with_reducible refine Kd.C_alloc ?_ _) | (with_reducible refine Kd.C_drewN ?_ _) | (with_reducible refine Kd.C_drew ?_))); (case side2 => exact (Kd.R_reads' HO506.out).2.1); rintro e w22 ⟨rfl, hb⟩; refine ⟨_, rfl, ?_⟩; have n0_ := Aside0.mk (Kd.R_below (by (with_reducible repeat (first | apply Kd.R_alloc | apply Kd.R_drewN | apply Kd.R_drew)); exact HO503.out) hb); have n1_ := Aside0.mk (Kd.R_below (by (with_reducible repeat (first | apply Kd.R_alloc | apply Kd.R_drewN | apply Kd.R_drew)); exact HO506.out) hb); have n2_ := Aside0.mk (bB3 BK499.out hb); have n3_ := Aside0.mk (bB3 BK500.out hb); have n4_ := Aside0.mk (bS3 HB.out hb); clear HO503; clear HO506; clear BK499; clear BK500; clear HB; have HO503 := n0_; have HO506 := n1_; have BK499 := n2_; have BK500 := n3_; have HB := n4_; clear n0_ n1_ n2_ n3_ n4_; (try clear hb); (try clear hb2); (try clear hk); (try clear hi)) | ((with_reducible refine gC (f := 91) rfl ?_); refine goesY_ (some 21) Try.func91 #[.slice Ao19 t501.length co19, .int .i64 x1_7] ?_; (with_reducible refine (vernierref00_Low.calls kj7 _ _ t501 x1_7 t509 _ ?side1 ?side2 A15.out).mono ?_); (case side1 => repeat (first | exact (Kd.R_reads' HO503.out).2.2 | (with_reducible refine Kd.C_alloc ?_ _) | (with_reducible refine Kd.C_drewN ?_ _) | (with_reducible refine Kd.C_drew ?_))); (case side2 => exact (Kd.R_reads' HO503.out).2.1); rintro e w' ⟨rfl, ⟨nd, rfl⟩⟩; refine ⟨_, rfl, ?_⟩; (try (rw [drewN_self w22]; generalize hq_ : World.drewN w22 _ = w22; have n0_ : Aside0 (Kd.R (Kd.int .i64) 3 w22 w.heap.size (fun k_ => some k_ ≠ (.slice Ao21 t504.length co21 : Value).ownBlock) (.slice Ao19 t501.length co19) t501) := ⟨by rw [← hq_]; exact (by (with_reducible repeat (first | apply Kd.R_alloc | apply Kd.R_drewN | apply Kd.R_drew)); exact Kd.R_mono HO503.out (fun _ hk => hk.2))⟩; have n1_ : Aside0 (Kd.R (Kd.int .i64) 3 w22 w.heap.size (fun k_ => some k_ ≠ (.slice Ao19 t501.length co19 : Value).ownBlock) (.slice Ao21 t504.length co21) t504) := ⟨by rw [← hq_]; exact (by (with_reducible repeat (first | apply Kd.R_alloc | apply Kd.R_drewN | apply Kd.R_drew)); exact Kd.R_mono HO506.out (fun _ hk => hk.2))⟩; have n2_ : Aside0 (w22.heap[gb499]? = some (.cells #[.int .u64 a0_0, .int .u64 a0_1] 25 (0, 0))) := ⟨by rw [← hq_]; exact (by (with_reducible repeat (first | refine bN ?_ _ | refine bD ?_ | refine bA ?_ _)); exact BK499.out)⟩; have n3_ : Aside0 (w22.heap[gb500]? = some (.cells #[.int .u64 0, .int .u64 0] 25 (0, 0))) := ⟨by rw [← hq_]; exact (by (with_reducible repeat (first | refine bN ?_ _ | refine bD ?_ | refine bA ?_ _)); exact BK500.out)⟩; have n4_ : Aside0 (Below w.heap.size w w22) := ⟨by rw [← hq_]; exact (by repeat (first | (with_reducible first | exact HB.out | apply pA | apply pN | apply p1 | refine pS ?_ GE499.out | refine pS ?_ GE500.out) | exact HB.out))⟩; clear HO503 HO506 BK499 BK500 HB hq_; have HO503 := n0_; have HO506 := n1_; have BK499 := n2_; have BK500 := n3_; have HB := n4_; clear n0_ n1_ n2_ n3_ n4_)); have hcz23_0 : w22.cell? ⟨gb500, 0, none⟩ = some (.int .u64 0) := (blk_cell BK500.out 0).trans rfl; have hcz23_1 : w22.cell? ⟨gb500, 1, none⟩ = some (.int .u64 0) := (blk_cell BK500.out 1).trans rfl; have hfz23_0 := blk_frozen BK500.out 0; have hfz23_1 := blk_frozen BK500.out 1))
        refine bodyPost_ret (results_ctt rfl _ _ gb500 25 #[.int .u64 t507, .int .u64 t508] (0, 0) _ rfl (by (with_reducible repeat (first | refine bN ?_ _ | refine bD ?_ | refine bA ?_ _)); refine blk_put (cs := #[.int .u64 t507, .int .u64 0]) ?_ 1 _ rfl; (with_reducible repeat (first | refine bN ?_ _ | refine bD ?_ | refine bA ?_ _)); refine blk_put (cs := #[.int .u64 0, .int .u64 0]) ?_ 0 _ rfl; (with_reducible repeat (first | refine bN ?_ _ | refine bD ?_ | refine bA ?_ _)); exact BK500.out) Try.underlying25 rfl (by kernel_rfl)) rfl ?_
        exact ⟨by first | rfl | (simp [errW_none, errW_some] <;> rfl) | (simp [*, errW_none, errW_some] <;> rfl), by repeat (first | (with_reducible first | exact HB.out | apply pA | apply pN | apply p1 | refine pS ?_ GE499.out | refine pS ?_ GE500.out) | exact HB.out)⟩

/-! ### vernierref02_Shl: function 62 -/
def vernierref02_Shl.j0 : Nat → Int → Int → Int → Option (Int × Int × Bool × Int)
  | 0, _, _, _ => none
  | k + 1, x1, x610000, x610001 => (vernierref02_Of.f k x610000 x610001).bind fun t611 => ((vernierref00_Shl.f k t611 x1).bind fun t614 => ((vernierref02_Told.f k t614).bind fun bt617 => ((vernierref02_all.f k).bind fun t619 => ((vernierref00_Cmp.f k t614 t619).bind fun t622 => (some (bt617.1, bt617.2, decide (t622 ≥ 0), 0))))))
def vernierref02_Shl.f (k : Nat) (a0_0 : Int) (a0_1 : Int) (a1 : Int) : Option (Int × Int × Bool × Int) := if a1 < 0 then (some (0, 0, false, 1)) else (if a1 > 128 then (vernierref02_Shl.j0 k 128 a0_0 a0_1) else (vernierref02_Shl.j0 k a1 a0_0 a0_1))
theorem vernierref02_Shl.mono_l : ∀ k, (∀ y0 y1 y2, LeO (vernierref02_Shl.j0 k y0 y1 y2) (vernierref02_Shl.j0 (k + 1) y0 y1 y2))
  | 0 => fun _ _ _ r h => by simp [vernierref02_Shl.j0] at h
  | k + 1 => by
    have ih0 := vernierref02_Shl.mono_l k
    · intro y0 y1 y2
      unfold vernierref02_Shl.j0
      repeat' first
      | (with_reducible exact ih0 _ _ _)
      | (with_reducible exact vernierref00_Cmp.mono _ _ _)
      | (with_reducible exact vernierref00_Shl.mono _ _ _)
      | (with_reducible exact vernierref02_Of.mono _ _ _)
      | (with_reducible exact vernierref02_Told.mono _ _)
      | (with_reducible exact vernierref02_all.mono _)
      | (with_reducible exact LeO.refl _)
      | (with_reducible exact LeO.none _)
      | (with_reducible refine LeO.ite ?_ ?_)
      | (with_reducible refine LeO.bind ?_ (fun _ => ?_))
      | exact ih0 _ _ _
      | exact vernierref00_Cmp.mono _ _ _
      | exact vernierref00_Shl.mono _ _ _
      | exact vernierref02_Of.mono _ _ _
      | exact vernierref02_Told.mono _ _
      | exact vernierref02_all.mono _
      | exact LeO.none _
      | refine LeO.ite ?_ ?_
      | refine LeO.bind ?_ (fun _ => ?_)
theorem vernierref02_Shl.mono : ∀ a0 a1 a2 k, LeO (vernierref02_Shl.f k a0 a1 a2) (vernierref02_Shl.f (k + 1) a0 a1 a2) := by
  intro a0 a1 a2 k
  have ih0 := vernierref02_Shl.mono_l k
  unfold vernierref02_Shl.f
  repeat' first
      | (with_reducible exact ih0 _ _ _)
      | (with_reducible exact vernierref00_Cmp.mono _ _ _)
      | (with_reducible exact vernierref00_Shl.mono _ _ _)
      | (with_reducible exact vernierref02_Of.mono _ _ _)
      | (with_reducible exact vernierref02_Told.mono _ _)
      | (with_reducible exact vernierref02_all.mono _)
      | (with_reducible exact LeO.refl _)
      | (with_reducible exact LeO.none _)
      | (with_reducible refine LeO.ite ?_ ?_)
      | (with_reducible refine LeO.bind ?_ (fun _ => ?_))
      | exact ih0 _ _ _
      | exact vernierref00_Cmp.mono _ _ _
      | exact vernierref00_Shl.mono _ _ _
      | exact vernierref02_Of.mono _ _ _
      | exact vernierref02_Told.mono _ _
      | exact vernierref02_all.mono _
      | exact LeO.none _
      | refine LeO.ite ?_ ?_
      | refine LeO.bind ?_ (fun _ => ?_)
set_option maxHeartbeats 8000000 in
set_option maxRecDepth 100000 in
theorem vernierref02_Shl.calls (k : Nat) (a0_0 : Int) (a0_1 : Int) (a1 : Int) (r1 : Int) (r2 : Int) (r3 : Bool) (r4 : Int) (w : World) (h : vernierref02_Shl.f k a0_0 a0_1 a1 = some (r1, r2, r3, r4)) :
    Calls Try.prog 62 #[.agg #[.int .u64 a0_0, .int .u64 a0_1], .int .i64 a1] w fun e w' => e = .returned (.tuple #[.agg #[.int .u64 r1, .int .u64 r2], .bool r3, .int .i64 r4]) ∧ Below w.heap.size w w' := by
  have hu25 := Try.underlying25
  have HB := Aside0.mk (Below.refl w.heap.size w)
  have H : (if a1 < 0 then (some (0, 0, false, 1)) else (if a1 > 128 then (vernierref02_Shl.j0 k 128 a0_0 a0_1) else (vernierref02_Shl.j0 k a1 a0_0 a0_1))) = some (r1, r2, r3, r4) := h
  clear h
  by_cases c3 : a1 < 0
  · rw [if_pos c3] at H
    have c3b0 : decide (a1 < 0) = true := decide_eq_true c3
    clear c3
    simp only [Option.some.injEq, Prod.mk.injEq] at H
    obtain ⟨rfl, rfl, rfl, rfl⟩ := H
    go_enter Try.func62, Try.ntmps62
    go_wp2_with (first | ((with_reducible refine gD (N := 2) rfl ?_); refine bE3 2 #[.int .u64 a0_0, .int .u64 a0_1] 25 ?hr ?_; (case hr => first | (go_simp; done) | (go_simp; rfl)); intro gb609 hg w4 hbox hb; have n0_ := Aside0.mk (bS3 HB.out hb); have n1_ := Aside0.mk (hbox); have n2_ := Aside0.mk ((bZ3 hg HB.out)); have n3_ := Aside0.mk ((bZ3 hg HB.out)); clear HB; have HB := n0_; have BK609 := n1_; have GW609 := n2_; have GE609 := n3_; clear n0_ n1_ n2_ n3_; clear hb hbox hg) | ((with_reducible refine gD (N := 4) rfl ?_); refine bE3 4 #[.int .u64 0, .int .u64 0] 25 ?hr ?_; (case hr => first | (go_simp; done) | (go_simp; rfl)); intro gb610 hg w5 hbox hb; have n0_ := Aside0.mk (bB3 BK609.out hb); have n1_ := Aside0.mk (bS3 HB.out hb); have n2_ := Aside0.mk (hbox); have n3_ := Aside0.mk ((bZ3 hg HB.out)); have n4_ := Aside0.mk ((bZ3 hg HB.out)); have n5_ := Aside0.mk ((bL3 hg BK609.out)); have n6_ := Aside0.mk ((bG3 hg BK609.out)); clear BK609; clear HB; have BK609 := n0_; have HB := n1_; have BK610 := n2_; have GW610 := n3_; have GE610 := n4_; have NB609_610 := n5_; have NB610_609 := n6_; clear n0_ n1_ n2_ n3_ n4_ n5_ n6_; clear hb hbox hg; have hnb6 := NB610_609.out; have hnc6 := NB609_610.out; have hcz7_0 : w5.cell? ⟨gb610, 0, none⟩ = some (.int .u64 0) := (blk_cell BK610.out 0).trans rfl; have hcz7_1 : w5.cell? ⟨gb610, 1, none⟩ = some (.int .u64 0) := (blk_cell BK610.out 1).trans rfl; have hfz7_0 := blk_frozen BK610.out 0; have hfz7_1 := blk_frozen BK610.out 1))
    refine bodyPost_ret (results_ctt rfl _ _ gb610 25 #[.int .u64 0, .int .u64 0] (0, 0) _ rfl (by (with_reducible repeat (first | refine bN ?_ _ | refine bD ?_ | refine bA ?_ _)); refine blk_put (cs := #[.int .u64 0, .int .u64 0]) ?_ 1 _ rfl; (with_reducible repeat (first | refine bN ?_ _ | refine bD ?_ | refine bA ?_ _)); refine blk_put (cs := #[.int .u64 0, .int .u64 0]) ?_ 0 _ rfl; (with_reducible repeat (first | refine bN ?_ _ | refine bD ?_ | refine bA ?_ _)); exact BK610.out) Try.underlying25 rfl (by kernel_rfl)) rfl ?_
    exact ⟨by first | rfl | (simp [errW_none, errW_some] <;> rfl) | (simp [*, errW_none, errW_some] <;> rfl), by repeat (first | (with_reducible first | exact HB.out | apply pA | apply pN | apply p1 | refine pS ?_ GE609.out | refine pS ?_ GE610.out) | exact HB.out)⟩
  · rw [if_neg c3] at H
    have c3b0 : decide (a1 < 0) = false := decide_eq_false c3
    clear c3
    have HC8 := Aside0.mk H
    clear H
    go_enter Try.func62, Try.ntmps62
    go_upto_if 12 with (first | ((with_reducible refine gD (N := 2) rfl ?_); refine bE3 2 #[.int .u64 a0_0, .int .u64 a0_1] 25 ?hr ?_; (case hr => first | (go_simp; done) | (go_simp; rfl)); intro gb609 hg w9 hbox hb; have n0_ := Aside0.mk (bS3 HB.out hb); have n1_ := Aside0.mk (hbox); have n2_ := Aside0.mk ((bZ3 hg HB.out)); have n3_ := Aside0.mk ((bZ3 hg HB.out)); clear HB; have HB := n0_; have BK609 := n1_; have GW609 := n2_; have GE609 := n3_; clear n0_ n1_ n2_ n3_; clear hb hbox hg) | ((with_reducible refine gD (N := 4) rfl ?_); refine bE3 4 #[.int .u64 0, .int .u64 0] 25 ?hr ?_; (case hr => first | (go_simp; done) | (go_simp; rfl)); intro gb610 hg w10 hbox hb; have n0_ := Aside0.mk (bB3 BK609.out hb); have n1_ := Aside0.mk (bS3 HB.out hb); have n2_ := Aside0.mk (hbox); have n3_ := Aside0.mk ((bZ3 hg HB.out)); have n4_ := Aside0.mk ((bZ3 hg HB.out)); have n5_ := Aside0.mk ((bL3 hg BK609.out)); have n6_ := Aside0.mk ((bG3 hg BK609.out)); clear BK609; clear HB; have BK609 := n0_; have HB := n1_; have BK610 := n2_; have GW610 := n3_; have GE610 := n4_; have NB609_610 := n5_; have NB610_609 := n6_; clear n0_ n1_ n2_ n3_ n4_ n5_ n6_; clear hb hbox hg))
    (try simp only [Act.put, List.setIfInBounds_toArray, List.set_cons_zero, List.set_cons_succ])
    go_cut [1] (fun v1 wc => ∃ (kq : Nat) (x1_7 : Int), v1 = .int .i64 x1_7 ∧ Aside0 (vernierref02_Shl.j0 kq x1_7 a0_0 a0_1 = some (r1, r2, r3, r4)) ∧ Aside0 (kq ≤ k) ∧ Aside0 (wc.heap[gb609]? = some (.cells #[.int .u64 a0_0, .int .u64 a0_1] 25 (0, 0))) ∧ Aside0 (wc.heap[gb610]? = some (.cells #[.int .u64 0, .int .u64 0] 25 (0, 0))) ∧ Aside0 (Below w.heap.size w wc))
    case first =>
      have H := HC8.out
      clear HC8
      by_cases c11 : a1 > 128
      · rw [if_pos c11] at H
        have c11b0 : decide (128 < a1) = true := decide_eq_true c11
        clear c11
        (first | rw [c11b0] | (simp only [i64_w, i32_w]; rw [c11b0]) | skip)
        have H' := Aside0.mk H
        clear H
        go_wp2
        go_meet
        case rel => exact ⟨_, (128), (by first | rfl | (simp; done) | (simp [*]; done)), H', ⟨by first | omega | exact Nat.le_refl _⟩, ⟨by (with_reducible repeat (first | refine bN ?_ _ | refine bD ?_ | refine bA ?_ _)); exact BK609.out⟩, ⟨by (with_reducible repeat (first | refine bN ?_ _ | refine bD ?_ | refine bA ?_ _)); exact BK610.out⟩, ⟨by repeat (first | (with_reducible first | exact HB.out | apply pA | apply pN | apply p1 | refine pS ?_ GE609.out | refine pS ?_ GE610.out) | exact HB.out)⟩⟩
      · rw [if_neg c11] at H
        have c11b0 : decide (128 < a1) = false := decide_eq_false c11
        clear c11
        (first | rw [c11b0] | (simp only [i64_w, i32_w]; rw [c11b0]) | skip)
        have H' := Aside0.mk H
        clear H
        go_wp2
        go_meet
        case rel => exact ⟨_, (a1), (by first | rfl | (simp; done) | (simp [*]; done)), H', ⟨by first | omega | exact Nat.le_refl _⟩, ⟨by (with_reducible repeat (first | refine bN ?_ _ | refine bD ?_ | refine bA ?_ _)); exact BK609.out⟩, ⟨by (with_reducible repeat (first | refine bN ?_ _ | refine bD ?_ | refine bA ?_ _)); exact BK610.out⟩, ⟨by repeat (first | (with_reducible first | exact HB.out | apply pA | apply pN | apply p1 | refine pS ?_ GE609.out | refine pS ?_ GE610.out) | exact HB.out)⟩⟩
    case rest =>
      clear HC8
      try clear c1
      try clear p2
      try clear c3
      try clear c3b0
      try clear c6
      try clear c11
      try clear c11b0
      try clear hcz7_0
      try clear hcz7_1
      try clear hfz7_0
      try clear hfz7_1
      obtain ⟨kq, x1_7, rfl, HA, HJ7, BK609, BK610, HB⟩ := hcut
      cases kq with
      | zero => exact absurd HA.out (by simp [vernierref02_Shl.j0])
      | succ kj7 =>
        have H := HA.out
        clear HA
        simp only [vernierref02_Shl.j0] at H
        replace H := Option.bind_eq_some_iff.mp H
        obtain ⟨t611, A120, H⟩ := H
        replace H : ((vernierref00_Shl.f kj7 t611 x1_7).bind fun t614 => ((vernierref02_Told.f kj7 t614).bind fun bt617 => ((vernierref02_all.f kj7).bind fun t619 => ((vernierref00_Cmp.f kj7 t614 t619).bind fun t622 => (some (bt617.1, bt617.2, decide (t622 ≥ 0), 0)))))) = some (r1, r2, r3, r4) := H
        have A12 := Aside0.mk A120
        clear A120
        replace H := Option.bind_eq_some_iff.mp H
        obtain ⟨t614, A130, H⟩ := H
        replace H : ((vernierref02_Told.f kj7 t614).bind fun bt617 => ((vernierref02_all.f kj7).bind fun t619 => ((vernierref00_Cmp.f kj7 t614 t619).bind fun t622 => (some (bt617.1, bt617.2, decide (t622 ≥ 0), 0))))) = some (r1, r2, r3, r4) := H
        have A13 := Aside0.mk A130
        clear A130
        replace H := Option.bind_eq_some_iff.mp H
        obtain ⟨⟨t617, t618⟩, A140, H⟩ := H
        replace H : ((vernierref02_all.f kj7).bind fun t619 => ((vernierref00_Cmp.f kj7 t614 t619).bind fun t622 => (some (t617, t618, decide (t622 ≥ 0), 0)))) = some (r1, r2, r3, r4) := H
        have A14 := Aside0.mk A140
        clear A140
        replace H := Option.bind_eq_some_iff.mp H
        obtain ⟨t619, A150, H⟩ := H
        replace H : ((vernierref00_Cmp.f kj7 t614 t619).bind fun t622 => (some (t617, t618, decide (t622 ≥ 0), 0))) = some (r1, r2, r3, r4) := H
        have A15 := Aside0.mk A150
        clear A150
        replace H := Option.bind_eq_some_iff.mp H
        obtain ⟨t622, A160, H⟩ := H
        replace H : (some (t617, t618, decide (t622 ≥ 0), 0)) = some (r1, r2, r3, r4) := H
        have A16 := Aside0.mk A160
        clear A160
        simp only [Option.some.injEq, Prod.mk.injEq] at H
        obtain ⟨rfl, rfl, rfl, rfl⟩ := H
        have hnb17 := NB609_610.out
        have hnc17 := NB610_609.out
        have hcz18_0 : wc.cell? ⟨gb609, 0, none⟩ = some (.int .u64 a0_0) := (blk_cell BK609.out 0).trans rfl
        have hcz18_1 : wc.cell? ⟨gb609, 1, none⟩ = some (.int .u64 a0_1) := (blk_cell BK609.out 1).trans rfl
        have hfz18_0 := blk_frozen BK609.out 0
        have hfz18_1 := blk_frozen BK609.out 1
        go_wp2_with (first | ((with_reducible refine gC (f := 75) rfl ?_); refine goesY_ (some 14) Try.func75 #[.agg #[.int .u64 a0_0, .int .u64 a0_1]] ?_; (with_reducible refine (vernierref02_Of.calls kj7 a0_0 a0_1 t611 _ A12.out).mono ?_); rintro e w19 ⟨v612, rfl, ho0, hb⟩; refine ⟨_, rfl, ?_⟩; have n0_ := Aside0.mk (Kd.R_lower ho0 (bZ (by repeat (first | (with_reducible first | exact HB.out | apply pA | apply pN | apply p1 | refine pS ?_ GE609.out | refine pS ?_ GE610.out) | exact HB.out)))); have n1_ := Aside0.mk (bB3 BK609.out hb); have n2_ := Aside0.mk (bB3 BK610.out hb); have n3_ := Aside0.mk (bS3 HB.out hb); clear BK609; clear BK610; clear HB; have HO613 := n0_; have BK609 := n1_; have BK610 := n2_; have HB := n3_; clear n0_ n1_ n2_ n3_; (try clear hb); (try clear hb2); (try clear hk); (try clear hi); (try clear ho0); obtain ⟨Ao20, co20, eo20⟩ := Kd.R_slice HO613.out; subst eo20) | ((with_reducible refine gC (f := 92) rfl ?_); refine goesY_ (some 16) Try.func92 #[.slice Ao20 t611.length co20, .int .i64 x1_7] ?_; (with_reducible refine (vernierref00_Shl.calls kj7 _ _ t611 x1_7 t614 _ ?side1 ?side2 A13.out).mono ?_); (case side1 => repeat (first | exact (Kd.R_reads' HO613.out).2.2 | (with_reducible refine Kd.C_alloc ?_ _) | (with_reducible refine Kd.C_drewN ?_ _) | (with_reducible refine Kd.C_drew ?_))); (case side2 => exact (Kd.R_reads' HO613.out).2.1); rintro e w21 ⟨v615, rfl, ho0, hb⟩; refine ⟨_, rfl, ?_⟩; have n0_ := Aside0.mk (Kd.R_elder' (by (with_reducible repeat (first | apply Kd.R_alloc | apply Kd.R_drewN | apply Kd.R_drew)); exact HO613.out) (Kd.R_base ho0) hb); have n1_ := Aside0.mk (Kd.R_lower (Kd.R_new' ho0 (Kd.R_lt (by (with_reducible repeat (first | apply Kd.R_alloc | apply Kd.R_drewN | apply Kd.R_drew)); exact HO613.out))) (bZ (by repeat (first | (with_reducible first | exact HB.out | apply pA | apply pN | apply p1 | refine pS ?_ GE609.out | refine pS ?_ GE610.out) | exact HB.out)))); have n2_ := Aside0.mk (bB3 BK609.out hb); have n3_ := Aside0.mk (bB3 BK610.out hb); have n4_ := Aside0.mk (bS3 HB.out hb); clear HO613; clear BK609; clear BK610; clear HB; have HO613 := n0_; have HO616 := n1_; have BK609 := n2_; have BK610 := n3_; have HB := n4_; clear n0_ n1_ n2_ n3_ n4_; (try clear hb); (try clear hb2); (try clear hk); (try clear hi); (try clear ho0); obtain ⟨Ao22, co22, eo22⟩ := Kd.R_slice HO616.out; subst eo22) | ((with_reducible refine gC (f := 68) rfl ?_); refine goesY_ (some 18) Try.func68 #[.slice Ao22 t614.length co22] ?_; (with_reducible refine (vernierref02_Told.calls kj7 _ _ t614 t617 t618 _ ?side1 ?side2 A14.out).mono ?_); (case side1 => repeat (first | exact (Kd.R_reads' HO616.out).2.2 | (with_reducible refine Kd.C_alloc ?_ _) | (with_reducible refine Kd.C_drewN ?_ _) | (with_reducible refine Kd.C_drew ?_))); (case side2 => exact (Kd.R_reads' HO616.out).2.1); rintro e w23 ⟨rfl, hb⟩; refine ⟨_, rfl, ?_⟩; have n0_ := Aside0.mk (Kd.R_below (by (with_reducible repeat (first | apply Kd.R_alloc | apply Kd.R_drewN | apply Kd.R_drew)); exact HO613.out) hb); have n1_ := Aside0.mk (Kd.R_below (by (with_reducible repeat (first | apply Kd.R_alloc | apply Kd.R_drewN | apply Kd.R_drew)); exact HO616.out) hb); have n2_ := Aside0.mk (bB3 BK609.out hb); have n3_ := Aside0.mk (bB3 BK610.out hb); have n4_ := Aside0.mk (bS3 HB.out hb); clear HO613; clear HO616; clear BK609; clear BK610; clear HB; have HO613 := n0_; have HO616 := n1_; have BK609 := n2_; have BK610 := n3_; have HB := n4_; clear n0_ n1_ n2_ n3_ n4_; (try clear hb); (try clear hb2); (try clear hk); (try clear hi)) | ((with_reducible refine gC (f := 79) rfl ?_); refine goesY_ (some 20) Try.func79 #[] ?_; (with_reducible refine (vernierref02_all.calls kj7  t619 _ A15.out).mono ?_); rintro e w24 ⟨v620, rfl, ho0, hb⟩; refine ⟨_, rfl, ?_⟩; have n0_ := Aside0.mk (Kd.R_elder' (by (with_reducible repeat (first | apply Kd.R_alloc | apply Kd.R_drewN | apply Kd.R_drew)); exact HO613.out) (Kd.R_base ho0) hb); have n1_ := Aside0.mk (Kd.R_elder' (by (with_reducible repeat (first | apply Kd.R_alloc | apply Kd.R_drewN | apply Kd.R_drew)); exact HO616.out) (Kd.R_base ho0) hb); have n2_ := Aside0.mk (Kd.R_lower (Kd.R_new' (Kd.R_new' ho0 (Kd.R_lt (by (with_reducible repeat (first | apply Kd.R_alloc | apply Kd.R_drewN | apply Kd.R_drew)); exact HO613.out))) (Kd.R_lt (by (with_reducible repeat (first | apply Kd.R_alloc | apply Kd.R_drewN | apply Kd.R_drew)); exact HO616.out))) (bZ (by repeat (first | (with_reducible first | exact HB.out | apply pA | apply pN | apply p1 | refine pS ?_ GE609.out | refine pS ?_ GE610.out) | exact HB.out)))); have n3_ := Aside0.mk (bB3 BK609.out hb); have n4_ := Aside0.mk (bB3 BK610.out hb); have n5_ := Aside0.mk (bS3 HB.out hb); clear HO613; clear HO616; clear BK609; clear BK610; clear HB; have HO613 := n0_; have HO616 := n1_; have HO621 := n2_; have BK609 := n3_; have BK610 := n4_; have HB := n5_; clear n0_ n1_ n2_ n3_ n4_ n5_; (try clear hb); (try clear hb2); (try clear hk); (try clear hi); (try clear ho0); obtain ⟨Ao25, co25, eo25⟩ := Kd.R_slice HO621.out; subst eo25) | ((with_reducible refine gC (f := 74) rfl ?_); refine goesY_ (some 21) Try.func74 #[.slice Ao22 t614.length co22, .slice Ao25 t619.length co25] ?_; (with_reducible refine (vernierref00_Cmp.calls kj7 _ _ t614 _ _ t619 t622 _ ?side1 ?side2 ?side3 ?side4 A16.out).mono ?_); (case side1 => repeat (first | exact (Kd.R_reads' HO616.out).2.2 | (with_reducible refine Kd.C_alloc ?_ _) | (with_reducible refine Kd.C_drewN ?_ _) | (with_reducible refine Kd.C_drew ?_))); (case side2 => exact (Kd.R_reads' HO616.out).2.1); (case side3 => repeat (first | exact (Kd.R_reads' HO621.out).2.2 | (with_reducible refine Kd.C_alloc ?_ _) | (with_reducible refine Kd.C_drewN ?_ _) | (with_reducible refine Kd.C_drew ?_))); (case side4 => exact (Kd.R_reads' HO621.out).2.1); rintro e w' ⟨rfl, ⟨nd, rfl⟩⟩; refine ⟨_, rfl, ?_⟩; (try (rw [drewN_self w24]; generalize hq_ : World.drewN w24 _ = w24; have n0_ : Aside0 (Kd.R (Kd.int .i64) 3 w24 w.heap.size (fun k_ => some k_ ≠ (.slice Ao22 t614.length co22 : Value).ownBlock ∧ some k_ ≠ (.slice Ao25 t619.length co25 : Value).ownBlock) (.slice Ao20 t611.length co20) t611) := ⟨by rw [← hq_]; exact (by (with_reducible repeat (first | apply Kd.R_alloc | apply Kd.R_drewN | apply Kd.R_drew)); exact Kd.R_mono HO613.out (fun _ hk => ⟨hk.1.2, hk.2⟩))⟩; have n1_ : Aside0 (Kd.R (Kd.int .i64) 3 w24 w.heap.size (fun k_ => some k_ ≠ (.slice Ao20 t611.length co20 : Value).ownBlock ∧ some k_ ≠ (.slice Ao25 t619.length co25 : Value).ownBlock) (.slice Ao22 t614.length co22) t614) := ⟨by rw [← hq_]; exact (by (with_reducible repeat (first | apply Kd.R_alloc | apply Kd.R_drewN | apply Kd.R_drew)); exact Kd.R_mono HO616.out (fun _ hk => ⟨hk.1.2, hk.2⟩))⟩; have n2_ : Aside0 (Kd.R (Kd.int .i64) 3 w24 w.heap.size (fun k_ => some k_ ≠ (.slice Ao20 t611.length co20 : Value).ownBlock ∧ some k_ ≠ (.slice Ao22 t614.length co22 : Value).ownBlock) (.slice Ao25 t619.length co25) t619) := ⟨by rw [← hq_]; exact (by (with_reducible repeat (first | apply Kd.R_alloc | apply Kd.R_drewN | apply Kd.R_drew)); exact Kd.R_mono HO621.out (fun _ hk => ⟨hk.1.2, hk.2⟩))⟩; have n3_ : Aside0 (w24.heap[gb609]? = some (.cells #[.int .u64 a0_0, .int .u64 a0_1] 25 (0, 0))) := ⟨by rw [← hq_]; exact (by (with_reducible repeat (first | refine bN ?_ _ | refine bD ?_ | refine bA ?_ _)); exact BK609.out)⟩; have n4_ : Aside0 (w24.heap[gb610]? = some (.cells #[.int .u64 0, .int .u64 0] 25 (0, 0))) := ⟨by rw [← hq_]; exact (by (with_reducible repeat (first | refine bN ?_ _ | refine bD ?_ | refine bA ?_ _)); exact BK610.out)⟩; have n5_ : Aside0 (Below w.heap.size w w24) := ⟨by rw [← hq_]; exact (by repeat (first | (with_reducible first | exact HB.out | apply pA | apply pN | apply p1 | refine pS ?_ GE609.out | refine pS ?_ GE610.out) | exact HB.out))⟩; clear HO613 HO616 HO621 BK609 BK610 HB hq_; have HO613 := n0_; have HO616 := n1_; have HO621 := n2_; have BK609 := n3_; have BK610 := n4_; have HB := n5_; clear n0_ n1_ n2_ n3_ n4_ n5_)); have hcz26_0 : w24.cell? ⟨gb610, 0, none⟩ = some (.int .u64 0) := (blk_cell BK610.out 0).trans rfl; have hcz26_1 : w24.cell? ⟨gb610, 1, none⟩ = some (.int .u64 0) := (blk_cell BK610.out 1).trans rfl; have hfz26_0 := blk_frozen BK610.out 0; have hfz26_1 := blk_frozen BK610.out 1))
        refine bodyPost_ret (results_ctt rfl _ _ gb610 25 #[.int .u64 t617, .int .u64 t618] (0, 0) _ rfl (by (with_reducible repeat (first | refine bN ?_ _ | refine bD ?_ | refine bA ?_ _)); refine blk_put (cs := #[.int .u64 t617, .int .u64 0]) ?_ 1 _ rfl; (with_reducible repeat (first | refine bN ?_ _ | refine bD ?_ | refine bA ?_ _)); refine blk_put (cs := #[.int .u64 0, .int .u64 0]) ?_ 0 _ rfl; (with_reducible repeat (first | refine bN ?_ _ | refine bD ?_ | refine bA ?_ _)); exact BK610.out) Try.underlying25 rfl (by kernel_rfl)) rfl ?_
        exact ⟨by first | rfl | (simp [errW_none, errW_some] <;> rfl) | (simp [*, errW_none, errW_some] <;> rfl), by repeat (first | (with_reducible first | exact HB.out | apply pA | apply pN | apply p1 | refine pS ?_ GE609.out | refine pS ?_ GE610.out) | exact HB.out)⟩

/-! ### vernierref02_Len: function 66 -/
def vernierref02_Len.f (k : Nat) (a0_0 : Int) (a0_1 : Int) : Option (Int) := (vernierref02_Of.f k a0_0 a0_1).bind fun t643 => ((vernierref00_Bits.f k t643).bind fun t646 => (some t646))
theorem vernierref02_Len.mono : ∀ a0 a1 k, LeO (vernierref02_Len.f k a0 a1) (vernierref02_Len.f (k + 1) a0 a1) := by
  intro a0 a1 k
  unfold vernierref02_Len.f
  repeat' first
      | (with_reducible exact vernierref00_Bits.mono _ _)
      | (with_reducible exact vernierref02_Of.mono _ _ _)
      | (with_reducible exact LeO.refl _)
      | (with_reducible exact LeO.none _)
      | (with_reducible refine LeO.ite ?_ ?_)
      | (with_reducible refine LeO.bind ?_ (fun _ => ?_))
      | exact vernierref00_Bits.mono _ _
      | exact vernierref02_Of.mono _ _ _
      | exact LeO.none _
      | refine LeO.ite ?_ ?_
      | refine LeO.bind ?_ (fun _ => ?_)
set_option maxHeartbeats 8000000 in
set_option maxRecDepth 100000 in
theorem vernierref02_Len.calls (k : Nat) (a0_0 : Int) (a0_1 : Int) (r : Int) (w : World) (h : vernierref02_Len.f k a0_0 a0_1 = some r) :
    Calls Try.prog 66 #[.agg #[.int .u64 a0_0, .int .u64 a0_1]] w fun e w' => e = .returned (.int .i64 r) ∧ Below w.heap.size w w' := by
  have hu25 := Try.underlying25
  have HB := Aside0.mk (Below.refl w.heap.size w)
  have H : ((vernierref02_Of.f k a0_0 a0_1).bind fun t643 => ((vernierref00_Bits.f k t643).bind fun t646 => (some t646))) = some r := h
  clear h
  replace H := Option.bind_eq_some_iff.mp H
  obtain ⟨t643, A20, H⟩ := H
  replace H : ((vernierref00_Bits.f k t643).bind fun t646 => (some t646)) = some r := H
  have A2 := Aside0.mk A20
  clear A20
  replace H := Option.bind_eq_some_iff.mp H
  obtain ⟨t646, A30, H⟩ := H
  replace H : (some t646) = some r := H
  have A3 := Aside0.mk A30
  clear A30
  obtain rfl := Option.some.inj H
  go_enter Try.func66, Try.ntmps66
  go_wp2_with (first | ((with_reducible refine gD (N := 1) rfl ?_); refine bE3 1 #[.int .u64 a0_0, .int .u64 a0_1] 25 ?hr ?_; (case hr => first | (go_simp; done) | (go_simp; rfl)); intro gb642 hg w4 hbox hb; have n0_ := Aside0.mk (bS3 HB.out hb); have n1_ := Aside0.mk (hbox); have n2_ := Aside0.mk ((bZ3 hg HB.out)); have n3_ := Aside0.mk ((bZ3 hg HB.out)); clear HB; have HB := n0_; have BK642 := n1_; have GW642 := n2_; have GE642 := n3_; clear n0_ n1_ n2_ n3_; clear hb hbox hg; have hcz5_0 : w4.cell? ⟨gb642, 0, none⟩ = some (.int .u64 a0_0) := (blk_cell BK642.out 0).trans rfl; have hcz5_1 : w4.cell? ⟨gb642, 1, none⟩ = some (.int .u64 a0_1) := (blk_cell BK642.out 1).trans rfl; have hfz5_0 := blk_frozen BK642.out 0; have hfz5_1 := blk_frozen BK642.out 1) | ((with_reducible refine gC (f := 75) rfl ?_); refine goesY_ (some 4) Try.func75 #[.agg #[.int .u64 a0_0, .int .u64 a0_1]] ?_; (with_reducible refine (vernierref02_Of.calls k a0_0 a0_1 t643 _ A2.out).mono ?_); rintro e w6 ⟨v644, rfl, ho0, hb⟩; refine ⟨_, rfl, ?_⟩; have n0_ := Aside0.mk (Kd.R_lower ho0 (bZ (by repeat (first | (with_reducible first | exact HB.out | apply pA | apply pN | apply p1 | refine pS ?_ GE642.out) | exact HB.out)))); have n1_ := Aside0.mk (bB3 BK642.out hb); have n2_ := Aside0.mk (bS3 HB.out hb); clear BK642; clear HB; have HO645 := n0_; have BK642 := n1_; have HB := n2_; clear n0_ n1_ n2_; (try clear hb); (try clear hb2); (try clear hk); (try clear hi); (try clear ho0); obtain ⟨Ao7, co7, eo7⟩ := Kd.R_slice HO645.out; subst eo7) | ((with_reducible refine gC (f := 94) rfl ?_); refine goesY_ (some 5) Try.func94 #[.slice Ao7 t643.length co7] ?_; (with_reducible refine (vernierref00_Bits.calls k _ _ t643 t646 _ ?side1 ?side2 A3.out).mono ?_); (case side1 => repeat (first | exact (Kd.R_reads' HO645.out).2.2 | (with_reducible refine Kd.C_alloc ?_ _) | (with_reducible refine Kd.C_drewN ?_ _) | (with_reducible refine Kd.C_drew ?_))); (case side2 => exact (Kd.R_reads' HO645.out).2.1); rintro e w' ⟨rfl, ⟨nd, rfl⟩⟩; refine ⟨_, rfl, ?_⟩))
  go_ret
  exact ⟨by first | rfl | (simp [errW_none, errW_some] <;> rfl) | (simp [*, errW_none, errW_some] <;> rfl), by repeat (first | (with_reducible first | exact HB.out | apply pA | apply pN | apply p1 | refine pS ?_ GE642.out) | exact HB.out)⟩

/-! ### vernierref02_Norm: function 64 -/
def vernierref02_Norm.f (k : Nat) (a0_0 : Int) (a0_1 : Int) : Option (Int × Int × Int) := (vernierref02_Len.f k a0_0 a0_1).bind fun t649 => (if t649 = 0 then (some (0, 0, 0)) else ((vernierref02_Of.f k a0_0 a0_1).bind fun t650 => ((vernierref00_Shl.f k t650 (wrap64 (128 - t649))).bind fun t653 => ((vernierref02_Told.f k t653).bind fun bt656 => (some (bt656.1, bt656.2, wrap64 (128 - t649)))))))
theorem vernierref02_Norm.mono : ∀ a0 a1 k, LeO (vernierref02_Norm.f k a0 a1) (vernierref02_Norm.f (k + 1) a0 a1) := by
  intro a0 a1 k
  unfold vernierref02_Norm.f
  repeat' first
      | (with_reducible exact vernierref00_Shl.mono _ _ _)
      | (with_reducible exact vernierref02_Len.mono _ _ _)
      | (with_reducible exact vernierref02_Of.mono _ _ _)
      | (with_reducible exact vernierref02_Told.mono _ _)
      | (with_reducible exact LeO.refl _)
      | (with_reducible exact LeO.none _)
      | (with_reducible refine LeO.ite ?_ ?_)
      | (with_reducible refine LeO.bind ?_ (fun _ => ?_))
      | exact vernierref00_Shl.mono _ _ _
      | exact vernierref02_Len.mono _ _ _
      | exact vernierref02_Of.mono _ _ _
      | exact vernierref02_Told.mono _ _
      | exact LeO.none _
      | refine LeO.ite ?_ ?_
      | refine LeO.bind ?_ (fun _ => ?_)
set_option maxHeartbeats 8000000 in
set_option maxRecDepth 100000 in
theorem vernierref02_Norm.calls (k : Nat) (a0_0 : Int) (a0_1 : Int) (r1 : Int) (r2 : Int) (r3 : Int) (w : World) (h : vernierref02_Norm.f k a0_0 a0_1 = some (r1, r2, r3)) :
    Calls Try.prog 64 #[.agg #[.int .u64 a0_0, .int .u64 a0_1]] w fun e w' => e = .returned (.tuple #[.agg #[.int .u64 r1, .int .u64 r2], .int .i64 r3]) ∧ Below w.heap.size w w' := by
  have hu25 := Try.underlying25
  have HB := Aside0.mk (Below.refl w.heap.size w)
  have H : ((vernierref02_Len.f k a0_0 a0_1).bind fun t649 => (if t649 = 0 then (some (0, 0, 0)) else ((vernierref02_Of.f k a0_0 a0_1).bind fun t650 => ((vernierref00_Shl.f k t650 (wrap64 (128 - t649))).bind fun t653 => ((vernierref02_Told.f k t653).bind fun bt656 => (some (bt656.1, bt656.2, wrap64 (128 - t649)))))))) = some (r1, r2, r3) := h
  clear h
  replace H := Option.bind_eq_some_iff.mp H
  obtain ⟨t649, A20, H⟩ := H
  replace H : (if t649 = 0 then (some (0, 0, 0)) else ((vernierref02_Of.f k a0_0 a0_1).bind fun t650 => ((vernierref00_Shl.f k t650 (wrap64 (128 - t649))).bind fun t653 => ((vernierref02_Told.f k t653).bind fun bt656 => (some (bt656.1, bt656.2, wrap64 (128 - t649))))))) = some (r1, r2, r3) := H
  have A2 := Aside0.mk A20
  clear A20
  by_cases c3 : t649 = 0
  · rw [if_pos c3] at H
    have c3b0 : (t649 == 0) = true := beq_iff_eq.mpr c3
    have c3b1 : (t649 != 0) = false := bne_eq_false_iff_eq.mpr c3
    clear c3
    simp only [Option.some.injEq, Prod.mk.injEq] at H
    obtain ⟨rfl, rfl, rfl⟩ := H
    go_enter Try.func64, Try.ntmps64
    go_wp2_with (first | ((with_reducible refine gD (N := 1) rfl ?_); refine bE3 1 #[.int .u64 a0_0, .int .u64 a0_1] 25 ?hr ?_; (case hr => first | (go_simp; done) | (go_simp; rfl)); intro gb647 hg w4 hbox hb; have n0_ := Aside0.mk (bS3 HB.out hb); have n1_ := Aside0.mk (hbox); have n2_ := Aside0.mk ((bZ3 hg HB.out)); have n3_ := Aside0.mk ((bZ3 hg HB.out)); clear HB; have HB := n0_; have BK647 := n1_; have GW647 := n2_; have GE647 := n3_; clear n0_ n1_ n2_ n3_; clear hb hbox hg) | ((with_reducible refine gD (N := 2) rfl ?_); refine bE3 2 #[.int .u64 0, .int .u64 0] 25 ?hr ?_; (case hr => first | (go_simp; done) | (go_simp; rfl)); intro gb648 hg w5 hbox hb; have n0_ := Aside0.mk (bB3 BK647.out hb); have n1_ := Aside0.mk (bS3 HB.out hb); have n2_ := Aside0.mk (hbox); have n3_ := Aside0.mk ((bZ3 hg HB.out)); have n4_ := Aside0.mk ((bZ3 hg HB.out)); have n5_ := Aside0.mk ((bL3 hg BK647.out)); have n6_ := Aside0.mk ((bG3 hg BK647.out)); clear BK647; clear HB; have BK647 := n0_; have HB := n1_; have BK648 := n2_; have GW648 := n3_; have GE648 := n4_; have NB647_648 := n5_; have NB648_647 := n6_; clear n0_ n1_ n2_ n3_ n4_ n5_ n6_; clear hb hbox hg; have hnb6 := NB647_648.out; have hnc6 := NB648_647.out; have hcz7_0 : w5.cell? ⟨gb647, 0, none⟩ = some (.int .u64 a0_0) := (blk_cell BK647.out 0).trans rfl; have hcz7_1 : w5.cell? ⟨gb647, 1, none⟩ = some (.int .u64 a0_1) := (blk_cell BK647.out 1).trans rfl; have hfz7_0 := blk_frozen BK647.out 0; have hfz7_1 := blk_frozen BK647.out 1) | ((with_reducible refine gC (f := 66) rfl ?_); refine goesY_ (some 6) Try.func66 #[.agg #[.int .u64 a0_0, .int .u64 a0_1]] ?_; (with_reducible refine (vernierref02_Len.calls k a0_0 a0_1 t649 _ A2.out).mono ?_); rintro e w8 ⟨rfl, hb⟩; refine ⟨_, rfl, ?_⟩; have n0_ := Aside0.mk (bB3 BK647.out hb); have n1_ := Aside0.mk (bB3 BK648.out hb); have n2_ := Aside0.mk (bS3 HB.out hb); clear BK647; clear BK648; clear HB; have BK647 := n0_; have BK648 := n1_; have HB := n2_; clear n0_ n1_ n2_; (try clear hb); (try clear hb2); (try clear hk); (try clear hi); have hcz9_0 : w8.cell? ⟨gb648, 0, none⟩ = some (.int .u64 0) := (blk_cell BK648.out 0).trans rfl; have hcz9_1 : w8.cell? ⟨gb648, 1, none⟩ = some (.int .u64 0) := (blk_cell BK648.out 1).trans rfl; have hfz9_0 := blk_frozen BK648.out 0; have hfz9_1 := blk_frozen BK648.out 1))
    refine bodyPost_ret (results_ct rfl _ _ gb648 25 #[.int .u64 0, .int .u64 0] (0, 0) _ rfl (by (with_reducible repeat (first | refine bN ?_ _ | refine bD ?_ | refine bA ?_ _)); refine blk_put (cs := #[.int .u64 0, .int .u64 0]) ?_ 1 _ rfl; (with_reducible repeat (first | refine bN ?_ _ | refine bD ?_ | refine bA ?_ _)); refine blk_put (cs := #[.int .u64 0, .int .u64 0]) ?_ 0 _ rfl; (with_reducible repeat (first | refine bN ?_ _ | refine bD ?_ | refine bA ?_ _)); exact BK648.out) Try.underlying25 rfl (by kernel_rfl)) rfl ?_
    exact ⟨by first | rfl | (simp [errW_none, errW_some] <;> rfl) | (simp [*, errW_none, errW_some] <;> rfl), by repeat (first | (with_reducible first | exact HB.out | apply pA | apply pN | apply p1 | refine pS ?_ GE647.out | refine pS ?_ GE648.out) | exact HB.out)⟩
  · rw [if_neg c3] at H
    have c3b0 : (t649 == 0) = false := beq_eq_false_iff_ne.mpr c3
    have c3b1 : (t649 != 0) = true := bne_iff_ne.mpr c3
    replace H := Option.bind_eq_some_iff.mp H
    obtain ⟨t650, A100, H⟩ := H
    replace H : ((vernierref00_Shl.f k t650 (wrap64 (128 - t649))).bind fun t653 => ((vernierref02_Told.f k t653).bind fun bt656 => (some (bt656.1, bt656.2, wrap64 (128 - t649))))) = some (r1, r2, r3) := H
    have A10 := Aside0.mk A100
    clear A100
    replace H := Option.bind_eq_some_iff.mp H
    obtain ⟨t653, A110, H⟩ := H
    replace H : ((vernierref02_Told.f k t653).bind fun bt656 => (some (bt656.1, bt656.2, wrap64 (128 - t649)))) = some (r1, r2, r3) := H
    have A11 := Aside0.mk A110
    clear A110
    replace H := Option.bind_eq_some_iff.mp H
    obtain ⟨⟨t656, t657⟩, A120, H⟩ := H
    replace H : (some (t656, t657, wrap64 (128 - t649))) = some (r1, r2, r3) := H
    have A12 := Aside0.mk A120
    clear A120
    simp only [Option.some.injEq, Prod.mk.injEq] at H
    obtain ⟨rfl, rfl, rfl⟩ := H
    go_enter Try.func64, Try.ntmps64
    go_wp2_with (first | ((with_reducible refine gD (N := 1) rfl ?_); refine bE3 1 #[.int .u64 a0_0, .int .u64 a0_1] 25 ?hr ?_; (case hr => first | (go_simp; done) | (go_simp; rfl)); intro gb647 hg w13 hbox hb; have n0_ := Aside0.mk (bS3 HB.out hb); have n1_ := Aside0.mk (hbox); have n2_ := Aside0.mk ((bZ3 hg HB.out)); have n3_ := Aside0.mk ((bZ3 hg HB.out)); clear HB; have HB := n0_; have BK647 := n1_; have GW647 := n2_; have GE647 := n3_; clear n0_ n1_ n2_ n3_; clear hb hbox hg) | ((with_reducible refine gD (N := 2) rfl ?_); refine bE3 2 #[.int .u64 0, .int .u64 0] 25 ?hr ?_; (case hr => first | (go_simp; done) | (go_simp; rfl)); intro gb648 hg w14 hbox hb; have n0_ := Aside0.mk (bB3 BK647.out hb); have n1_ := Aside0.mk (bS3 HB.out hb); have n2_ := Aside0.mk (hbox); have n3_ := Aside0.mk ((bZ3 hg HB.out)); have n4_ := Aside0.mk ((bZ3 hg HB.out)); have n5_ := Aside0.mk ((bL3 hg BK647.out)); have n6_ := Aside0.mk ((bG3 hg BK647.out)); clear BK647; clear HB; have BK647 := n0_; have HB := n1_; have BK648 := n2_; have GW648 := n3_; have GE648 := n4_; have NB647_648 := n5_; have NB648_647 := n6_; clear n0_ n1_ n2_ n3_ n4_ n5_ n6_; clear hb hbox hg; have hnb15 := NB647_648.out; have hnc15 := NB648_647.out; have hcz16_0 : w14.cell? ⟨gb647, 0, none⟩ = some (.int .u64 a0_0) := (blk_cell BK647.out 0).trans rfl; have hcz16_1 : w14.cell? ⟨gb647, 1, none⟩ = some (.int .u64 a0_1) := (blk_cell BK647.out 1).trans rfl; have hfz16_0 := blk_frozen BK647.out 0; have hfz16_1 := blk_frozen BK647.out 1) | ((with_reducible refine gC (f := 66) rfl ?_); refine goesY_ (some 6) Try.func66 #[.agg #[.int .u64 a0_0, .int .u64 a0_1]] ?_; (with_reducible refine (vernierref02_Len.calls k a0_0 a0_1 t649 _ A2.out).mono ?_); rintro e w17 ⟨rfl, hb⟩; refine ⟨_, rfl, ?_⟩; have n0_ := Aside0.mk (bB3 BK647.out hb); have n1_ := Aside0.mk (bB3 BK648.out hb); have n2_ := Aside0.mk (bS3 HB.out hb); clear BK647; clear BK648; clear HB; have BK647 := n0_; have BK648 := n1_; have HB := n2_; clear n0_ n1_ n2_; (try clear hb); (try clear hb2); (try clear hk); (try clear hi); have hcz18_0 : w17.cell? ⟨gb647, 0, none⟩ = some (.int .u64 a0_0) := (blk_cell BK647.out 0).trans rfl; have hcz18_1 : w17.cell? ⟨gb647, 1, none⟩ = some (.int .u64 a0_1) := (blk_cell BK647.out 1).trans rfl; have hfz18_0 := blk_frozen BK647.out 0; have hfz18_1 := blk_frozen BK647.out 1) | ((with_reducible refine gC (f := 75) rfl ?_); refine goesY_ (some 11) Try.func75 #[.agg #[.int .u64 a0_0, .int .u64 a0_1]] ?_; (with_reducible refine (vernierref02_Of.calls k a0_0 a0_1 t650 _ A10.out).mono ?_); rintro e w19 ⟨v651, rfl, ho0, hb⟩; refine ⟨_, rfl, ?_⟩; have n0_ := Aside0.mk (Kd.R_lower ho0 (bZ (by repeat (first | (with_reducible first | exact HB.out | apply pA | apply pN | apply p1 | refine pS ?_ GE647.out | refine pS ?_ GE648.out) | exact HB.out)))); have n1_ := Aside0.mk (bB3 BK647.out hb); have n2_ := Aside0.mk (bB3 BK648.out hb); have n3_ := Aside0.mk (bS3 HB.out hb); clear BK647; clear BK648; clear HB; have HO652 := n0_; have BK647 := n1_; have BK648 := n2_; have HB := n3_; clear n0_ n1_ n2_ n3_; (try clear hb); (try clear hb2); (try clear hk); (try clear hi); (try clear ho0); obtain ⟨Ao20, co20, eo20⟩ := Kd.R_slice HO652.out; subst eo20) | ((with_reducible refine gC (f := 92) rfl ?_); refine goesY_ (some 14) Try.func92 #[.slice Ao20 t650.length co20, .int .i64 (wrap64 (128 - t649))] ?_; (with_reducible refine (vernierref00_Shl.calls k _ _ t650 (wrap64 (128 - t649)) t653 _ ?side1 ?side2 A11.out).mono ?_); (case side1 => repeat (first | exact (Kd.R_reads' HO652.out).2.2 | (with_reducible refine Kd.C_alloc ?_ _) | (with_reducible refine Kd.C_drewN ?_ _) | (with_reducible refine Kd.C_drew ?_))); (case side2 => exact (Kd.R_reads' HO652.out).2.1); rintro e w21 ⟨v654, rfl, ho0, hb⟩; refine ⟨_, rfl, ?_⟩; have n0_ := Aside0.mk (Kd.R_elder' (by (with_reducible repeat (first | apply Kd.R_alloc | apply Kd.R_drewN | apply Kd.R_drew)); exact HO652.out) (Kd.R_base ho0) hb); have n1_ := Aside0.mk (Kd.R_lower (Kd.R_new' ho0 (Kd.R_lt (by (with_reducible repeat (first | apply Kd.R_alloc | apply Kd.R_drewN | apply Kd.R_drew)); exact HO652.out))) (bZ (by repeat (first | (with_reducible first | exact HB.out | apply pA | apply pN | apply p1 | refine pS ?_ GE647.out | refine pS ?_ GE648.out) | exact HB.out)))); have n2_ := Aside0.mk (bB3 BK647.out hb); have n3_ := Aside0.mk (bB3 BK648.out hb); have n4_ := Aside0.mk (bS3 HB.out hb); clear HO652; clear BK647; clear BK648; clear HB; have HO652 := n0_; have HO655 := n1_; have BK647 := n2_; have BK648 := n3_; have HB := n4_; clear n0_ n1_ n2_ n3_ n4_; (try clear hb); (try clear hb2); (try clear hk); (try clear hi); (try clear ho0); obtain ⟨Ao22, co22, eo22⟩ := Kd.R_slice HO655.out; subst eo22) | ((with_reducible refine gC (f := 68) rfl ?_); refine goesY_ (some 15) Try.func68 #[.slice Ao22 t653.length co22] ?_; (with_reducible refine (vernierref02_Told.calls k _ _ t653 t656 t657 _ ?side1 ?side2 A12.out).mono ?_); (case side1 => repeat (first | exact (Kd.R_reads' HO655.out).2.2 | (with_reducible refine Kd.C_alloc ?_ _) | (with_reducible refine Kd.C_drewN ?_ _) | (with_reducible refine Kd.C_drew ?_))); (case side2 => exact (Kd.R_reads' HO655.out).2.1); rintro e w23 ⟨rfl, hb⟩; refine ⟨_, rfl, ?_⟩; have n0_ := Aside0.mk (Kd.R_below (by (with_reducible repeat (first | apply Kd.R_alloc | apply Kd.R_drewN | apply Kd.R_drew)); exact HO652.out) hb); have n1_ := Aside0.mk (Kd.R_below (by (with_reducible repeat (first | apply Kd.R_alloc | apply Kd.R_drewN | apply Kd.R_drew)); exact HO655.out) hb); have n2_ := Aside0.mk (bB3 BK647.out hb); have n3_ := Aside0.mk (bB3 BK648.out hb); have n4_ := Aside0.mk (bS3 HB.out hb); clear HO652; clear HO655; clear BK647; clear BK648; clear HB; have HO652 := n0_; have HO655 := n1_; have BK647 := n2_; have BK648 := n3_; have HB := n4_; clear n0_ n1_ n2_ n3_ n4_; (try clear hb); (try clear hb2); (try clear hk); (try clear hi); have hcz24_0 : w23.cell? ⟨gb648, 0, none⟩ = some (.int .u64 0) := (blk_cell BK648.out 0).trans rfl; have hcz24_1 : w23.cell? ⟨gb648, 1, none⟩ = some (.int .u64 0) := (blk_cell BK648.out 1).trans rfl; have hfz24_0 := blk_frozen BK648.out 0; have hfz24_1 := blk_frozen BK648.out 1))
    refine bodyPost_ret (results_ct rfl _ _ gb648 25 #[.int .u64 t656, .int .u64 t657] (0, 0) _ rfl (by (with_reducible repeat (first | refine bN ?_ _ | refine bD ?_ | refine bA ?_ _)); refine blk_put (cs := #[.int .u64 t656, .int .u64 0]) ?_ 1 _ rfl; (with_reducible repeat (first | refine bN ?_ _ | refine bD ?_ | refine bA ?_ _)); refine blk_put (cs := #[.int .u64 0, .int .u64 0]) ?_ 0 _ rfl; (with_reducible repeat (first | refine bN ?_ _ | refine bD ?_ | refine bA ?_ _)); exact BK648.out) Try.underlying25 rfl (by kernel_rfl)) rfl ?_
    exact ⟨by first | rfl | (simp [errW_none, errW_some] <;> rfl) | (simp [*, errW_none, errW_some] <;> rfl), by repeat (first | (with_reducible first | exact HB.out | apply pA | apply pN | apply p1 | refine pS ?_ GE647.out | refine pS ?_ GE648.out) | exact HB.out)⟩

end Go.Proofs.Ytjbcfiigafbobaa.F
