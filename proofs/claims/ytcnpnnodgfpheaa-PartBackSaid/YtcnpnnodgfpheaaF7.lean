/- Functions of the given program as plain Lean functions, and for each a proof that the program's call comes to just these answers; no further conditions. (Written by a program of this repo out of the translation.) -/
import Derived.Test.YtcnpnnodgfpheaaF0
import Derived.Test.YtcnpnnodgfpheaaF6
namespace Go.Proofs.Ytcnpnnodgfpheaa.F
open Go.RowKit Go.Proofs.YtcnpnnodgfpheaaW.PrintWords Go.Proofs.YtcnpnnodgfpheaaW.PrintLast Go.Proofs.YtcnpnnodgfpheaaW.PrintMore
attribute [local go_sem high] xor_u64 xor_u32 eqErr27 neErr27 eqErrL27 neErrL27
attribute [local go_sem] max2_int min2_int max_two min_two max_three min_three max_four min_four   -- for this text's walks alone
set_option linter.unusedVariables false
set_option linter.unusedSimpArgs false

/-! ### vernierref02_Of: function 21 -/
def vernierref02_Of.f (k : Nat) (a0_0 : Int) (a0_1 : Int) : Option (List Int) := (vernierref00_Of.f k a0_0).bind fun t230 => ((vernierref00_Shl.f k t230 64).bind fun t233 => ((vernierref00_Of.f k a0_1).bind fun t236 => ((vernierref00_Add.f k t233 t236).bind fun t239 => (some t239))))
theorem vernierref02_Of.mono : ∀ a0 a1 k, LeO (vernierref02_Of.f k a0 a1) (vernierref02_Of.f (k + 1) a0 a1) := by
  intro a0 a1 k
  unfold vernierref02_Of.f
  repeat' first
      | (with_reducible exact vernierref00_Add.mono _ _ _)
      | (with_reducible exact vernierref00_Of.mono _ _)
      | (with_reducible exact vernierref00_Shl.mono _ _ _)
      | (with_reducible exact LeO.refl _)
      | (with_reducible exact LeO.none _)
      | (with_reducible refine LeO.ite ?_ ?_)
      | (with_reducible refine LeO.bind ?_ (fun _ => ?_))
      | exact vernierref00_Add.mono _ _ _
      | exact vernierref00_Of.mono _ _
      | exact vernierref00_Shl.mono _ _ _
      | exact LeO.none _
      | refine LeO.ite ?_ ?_
      | refine LeO.bind ?_ (fun _ => ?_)
set_option maxHeartbeats 8000000 in
set_option maxRecDepth 100000 in
theorem vernierref02_Of.calls (k : Nat) (a0_0 : Int) (a0_1 : Int) (r : List Int) (w : World) (h : vernierref02_Of.f k a0_0 a0_1 = some r) :
    Calls Try.prog 21 #[.agg #[.int .u64 a0_0, .int .u64 a0_1]] w fun e w' => ∃ v0_ : Value, e = .returned (v0_) ∧ Kd.R (Kd.int .i64) 3 w' w.heap.size (fun _ => True) v0_ r ∧ Below w.heap.size w w' := by
  have hu24 := Try.underlying24
  have HB := Aside0.mk (Below.refl w.heap.size w)
  have H : ((vernierref00_Of.f k a0_0).bind fun t230 => ((vernierref00_Shl.f k t230 64).bind fun t233 => ((vernierref00_Of.f k a0_1).bind fun t236 => ((vernierref00_Add.f k t233 t236).bind fun t239 => (some t239))))) = some r := h
  clear h
  replace H := Option.bind_eq_some_iff.mp H
  obtain ⟨t230, A20, H⟩ := H
  replace H : ((vernierref00_Shl.f k t230 64).bind fun t233 => ((vernierref00_Of.f k a0_1).bind fun t236 => ((vernierref00_Add.f k t233 t236).bind fun t239 => (some t239)))) = some r := H
  have A2 := Aside0.mk A20
  clear A20
  replace H := Option.bind_eq_some_iff.mp H
  obtain ⟨t233, A30, H⟩ := H
  replace H : ((vernierref00_Of.f k a0_1).bind fun t236 => ((vernierref00_Add.f k t233 t236).bind fun t239 => (some t239))) = some r := H
  have A3 := Aside0.mk A30
  clear A30
  replace H := Option.bind_eq_some_iff.mp H
  obtain ⟨t236, A40, H⟩ := H
  replace H : ((vernierref00_Add.f k t233 t236).bind fun t239 => (some t239)) = some r := H
  have A4 := Aside0.mk A40
  clear A40
  replace H := Option.bind_eq_some_iff.mp H
  obtain ⟨t239, A50, H⟩ := H
  replace H : (some t239) = some r := H
  have A5 := Aside0.mk A50
  clear A50
  obtain rfl := Option.some.inj H
  go_enter Try.func21, Try.ntmps21
  go_wp2_with (first | ((with_reducible refine gD (N := 1) rfl ?_); refine bE3 1 #[.int .u64 a0_0, .int .u64 a0_1] 24 ?hr ?_; (case hr => first | (go_simp; done) | (go_simp; rfl)); intro gb229 hg w6 hbox hb; have n0_ := Aside0.mk (bS3 HB.out hb); have n1_ := Aside0.mk (hbox); have n2_ := Aside0.mk ((bZ3 hg HB.out)); have n3_ := Aside0.mk ((bZ3 hg HB.out)); clear HB; have HB := n0_; have BK229 := n1_; have GW229 := n2_; have GE229 := n3_; clear n0_ n1_ n2_ n3_; clear hb hbox hg; have hcz7_0 : w6.cell? ⟨gb229, 0, none⟩ = some (.int .u64 a0_0) := (blk_cell BK229.out 0).trans rfl; have hcz7_1 : w6.cell? ⟨gb229, 1, none⟩ = some (.int .u64 a0_1) := (blk_cell BK229.out 1).trans rfl; have hfz7_0 := blk_frozen BK229.out 0; have hfz7_1 := blk_frozen BK229.out 1) | ((with_reducible refine gC (f := 33) rfl ?_); (with_reducible refine gD (N := 6) rfl ?_); refine goesY_ (some 6) Try.func33 #[.int .u64 a0_0] ?_; (with_reducible refine (vernierref00_Of.calls k a0_0 t230 _ A2.out).mono ?_); rintro e w8 ⟨v231, rfl, ho0, hb⟩; refine ⟨_, rfl, ?_⟩; have n0_ := Aside0.mk (Kd.R_lower ho0 (bZ (by repeat (first | (with_reducible first | exact HB.out | apply pA | apply pN | apply p1 | refine pS ?_ GE229.out) | exact HB.out)))); have n1_ := Aside0.mk (bB3 BK229.out hb); have n2_ := Aside0.mk (bS3 HB.out hb); clear BK229; clear HB; have HO232 := n0_; have BK229 := n1_; have HB := n2_; clear n0_ n1_ n2_; (try clear hb); (try clear hb2); (try clear hk); (try clear hi); (try clear ho0); obtain ⟨Ao9, co9, eo9⟩ := Kd.R_slice HO232.out; subst eo9) | ((with_reducible refine gC (f := 32) rfl ?_); (with_reducible refine gD (N := 7) rfl ?_); refine goesY_ (some 7) Try.func32 #[.slice Ao9 t230.length co9, .int .i64 64] ?_; (with_reducible refine (vernierref00_Shl.calls k _ _ t230 64 t233 _ ?side1 ?side2 A3.out).mono ?_); (case side1 => repeat (first | exact (Kd.R_reads' HO232.out).2.2 | (with_reducible refine Kd.C_alloc ?_ _) | (with_reducible refine Kd.C_drewN ?_ _) | (with_reducible refine Kd.C_drew ?_))); (case side2 => exact (Kd.R_reads' HO232.out).2.1); rintro e w10 ⟨v234, rfl, ho0, hb⟩; refine ⟨_, rfl, ?_⟩; have n0_ := Aside0.mk (Kd.R_elder' (by (with_reducible repeat (first | apply Kd.R_alloc | apply Kd.R_drewN | apply Kd.R_drew)); exact HO232.out) (Kd.R_base ho0) hb); have n1_ := Aside0.mk (Kd.R_lower (Kd.R_new' ho0 (Kd.R_lt (by (with_reducible repeat (first | apply Kd.R_alloc | apply Kd.R_drewN | apply Kd.R_drew)); exact HO232.out))) (bZ (by repeat (first | (with_reducible first | exact HB.out | apply pA | apply pN | apply p1 | refine pS ?_ GE229.out) | exact HB.out)))); have n2_ := Aside0.mk (bB3 BK229.out hb); have n3_ := Aside0.mk (bS3 HB.out hb); clear HO232; clear BK229; clear HB; have HO232 := n0_; have HO235 := n1_; have BK229 := n2_; have HB := n3_; clear n0_ n1_ n2_ n3_; (try clear hb); (try clear hb2); (try clear hk); (try clear hi); (try clear ho0); have hcz11_0 : w10.cell? ⟨gb229, 0, none⟩ = some (.int .u64 a0_0) := (blk_cell BK229.out 0).trans rfl; have hcz11_1 : w10.cell? ⟨gb229, 1, none⟩ = some (.int .u64 a0_1) := (blk_cell BK229.out 1).trans rfl; have hfz11_0 := blk_frozen BK229.out 0; have hfz11_1 := blk_frozen BK229.out 1) | ((with_reducible refine gC (f := 33) rfl ?_); (with_reducible refine gD (N := 11) rfl ?_); refine goesY_ (some 11) Try.func33 #[.int .u64 a0_1] ?_; (with_reducible refine (vernierref00_Of.calls k a0_1 t236 _ A4.out).mono ?_); rintro e w12 ⟨v237, rfl, ho0, hb⟩; refine ⟨_, rfl, ?_⟩; have n0_ := Aside0.mk (Kd.R_elder' (by (with_reducible repeat (first | apply Kd.R_alloc | apply Kd.R_drewN | apply Kd.R_drew)); exact HO232.out) (Kd.R_base ho0) hb); have n1_ := Aside0.mk (Kd.R_elder' (by (with_reducible repeat (first | apply Kd.R_alloc | apply Kd.R_drewN | apply Kd.R_drew)); exact HO235.out) (Kd.R_base ho0) hb); have n2_ := Aside0.mk (Kd.R_lower (Kd.R_new' (Kd.R_new' ho0 (Kd.R_lt (by (with_reducible repeat (first | apply Kd.R_alloc | apply Kd.R_drewN | apply Kd.R_drew)); exact HO232.out))) (Kd.R_lt (by (with_reducible repeat (first | apply Kd.R_alloc | apply Kd.R_drewN | apply Kd.R_drew)); exact HO235.out))) (bZ (by repeat (first | (with_reducible first | exact HB.out | apply pA | apply pN | apply p1 | refine pS ?_ GE229.out) | exact HB.out)))); have n3_ := Aside0.mk (bB3 BK229.out hb); have n4_ := Aside0.mk (bS3 HB.out hb); clear HO232; clear HO235; clear BK229; clear HB; have HO232 := n0_; have HO235 := n1_; have HO238 := n2_; have BK229 := n3_; have HB := n4_; clear n0_ n1_ n2_ n3_ n4_; (try clear hb); (try clear hb2); (try clear hk); (try clear hi); (try clear ho0); obtain ⟨Ao13, co13, eo13⟩ := Kd.R_slice HO235.out; subst eo13; obtain ⟨Ao14, co14, eo14⟩ := Kd.R_slice HO238.out; subst eo14) | ((with_reducible refine gC (f := 34) rfl ?_); (with_reducible refine gD (N := 12) rfl ?_); refine goesY_ (some 12) Try.func34 #[.slice Ao13 t233.length co13, .slice Ao14 t236.length co14] ?_; (with_reducible refine (vernierref00_Add.calls k _ _ t233 _ _ t236 t239 _ ?side1 ?side2 ?side3 ?side4 A5.out).mono ?_); (case side1 => repeat (first | exact (Kd.R_reads' HO235.out).2.2 | (with_reducible refine Kd.C_alloc ?_ _) | (with_reducible refine Kd.C_drewN ?_ _) | (with_reducible refine Kd.C_drew ?_))); (case side2 => exact (Kd.R_reads' HO235.out).2.1); (case side3 => repeat (first | exact (Kd.R_reads' HO238.out).2.2 | (with_reducible refine Kd.C_alloc ?_ _) | (with_reducible refine Kd.C_drewN ?_ _) | (with_reducible refine Kd.C_drew ?_))); (case side4 => exact (Kd.R_reads' HO238.out).2.1); rintro e w15 ⟨v240, rfl, ho0, hb⟩; refine ⟨_, rfl, ?_⟩; have n0_ := Aside0.mk (Kd.R_elder' (by (with_reducible repeat (first | apply Kd.R_alloc | apply Kd.R_drewN | apply Kd.R_drew)); exact HO232.out) (Kd.R_base ho0) hb); have n1_ := Aside0.mk (Kd.R_elder' (by (with_reducible repeat (first | apply Kd.R_alloc | apply Kd.R_drewN | apply Kd.R_drew)); exact HO235.out) (Kd.R_base ho0) hb); have n2_ := Aside0.mk (Kd.R_elder' (by (with_reducible repeat (first | apply Kd.R_alloc | apply Kd.R_drewN | apply Kd.R_drew)); exact HO238.out) (Kd.R_base ho0) hb); have n3_ := Aside0.mk (Kd.R_lower (Kd.R_new' (Kd.R_new' (Kd.R_new' ho0 (Kd.R_lt (by (with_reducible repeat (first | apply Kd.R_alloc | apply Kd.R_drewN | apply Kd.R_drew)); exact HO232.out))) (Kd.R_lt (by (with_reducible repeat (first | apply Kd.R_alloc | apply Kd.R_drewN | apply Kd.R_drew)); exact HO235.out))) (Kd.R_lt (by (with_reducible repeat (first | apply Kd.R_alloc | apply Kd.R_drewN | apply Kd.R_drew)); exact HO238.out))) (bZ (by repeat (first | (with_reducible first | exact HB.out | apply pA | apply pN | apply p1 | refine pS ?_ GE229.out) | exact HB.out)))); have n4_ := Aside0.mk (bB3 BK229.out hb); have n5_ := Aside0.mk (bS3 HB.out hb); clear HO232; clear HO235; clear HO238; clear BK229; clear HB; have HO232 := n0_; have HO235 := n1_; have HO238 := n2_; have HO241 := n3_; have BK229 := n4_; have HB := n5_; clear n0_ n1_ n2_ n3_ n4_ n5_; (try clear hb); (try clear hb2); (try clear hk); (try clear hi); (try clear ho0)))
  go_ret
  exact ⟨_, by first | rfl | (simp [errW_none, errW_some] <;> rfl) | (simp [*, errW_none, errW_some] <;> rfl), by (with_reducible repeat (first | apply Kd.R_alloc | apply Kd.R_drewN | apply Kd.R_drew)); exact Kd.R_mono HO241.out (fun _ hk => trivial), by repeat (first | (with_reducible first | exact HB.out | apply pA | apply pN | apply p1 | refine pS ?_ GE229.out) | exact HB.out)⟩

/-! ### vernierref02_Told: function 23 -/
def vernierref02_Told.f (k : Nat) (l0 : List Int) : Option (Int × Int) := (vernierref00_Shr.f k l0 64).bind fun t304 => ((vernierref00_Word.f k t304).bind fun t307 => ((vernierref00_Word.f k l0).bind fun t308 => (some (t307, t308))))
theorem vernierref02_Told.mono : ∀ a0 k, LeO (vernierref02_Told.f k a0) (vernierref02_Told.f (k + 1) a0) := by
  intro a0 k
  unfold vernierref02_Told.f
  repeat' first
      | (with_reducible exact vernierref00_Shr.mono _ _ _)
      | (with_reducible exact vernierref00_Word.mono _ _)
      | (with_reducible exact LeO.refl _)
      | (with_reducible exact LeO.none _)
      | (with_reducible refine LeO.ite ?_ ?_)
      | (with_reducible refine LeO.bind ?_ (fun _ => ?_))
      | exact vernierref00_Shr.mono _ _ _
      | exact vernierref00_Word.mono _ _
      | exact LeO.none _
      | refine LeO.ite ?_ ?_
      | refine LeO.bind ?_ (fun _ => ?_)
set_option maxHeartbeats 8000000 in
set_option maxRecDepth 100000 in
theorem vernierref02_Told.calls (k : Nat) (A0 : Option Addr) (c0 : Nat) (l0 : List Int) (r1 : Int) (r2 : Int) (w : World) (hr0 : Kd.C (Kd.int .i64) w A0 l0.length l0) (hc0 : l0.length ≤ c0) (h : vernierref02_Told.f k l0 = some (r1, r2)) :
    Calls Try.prog 23 #[.slice A0 l0.length c0] w fun e w' => e = .returned (.agg #[.int .u64 r1, .int .u64 r2]) ∧ Below w.heap.size w w' := by
  have hu24 := Try.underlying24
  have HR0 := Aside0.mk hr0
  have HC0 := Aside0.mk hc0
  clear hr0 hc0
  have HB := Aside0.mk (Below.refl w.heap.size w)
  have H : ((vernierref00_Shr.f k l0 64).bind fun t304 => ((vernierref00_Word.f k t304).bind fun t307 => ((vernierref00_Word.f k l0).bind fun t308 => (some (t307, t308))))) = some (r1, r2) := h
  clear h
  replace H := Option.bind_eq_some_iff.mp H
  obtain ⟨t304, A20, H⟩ := H
  replace H : ((vernierref00_Word.f k t304).bind fun t307 => ((vernierref00_Word.f k l0).bind fun t308 => (some (t307, t308)))) = some (r1, r2) := H
  have A2 := Aside0.mk A20
  clear A20
  replace H := Option.bind_eq_some_iff.mp H
  obtain ⟨t307, A30, H⟩ := H
  replace H : ((vernierref00_Word.f k l0).bind fun t308 => (some (t307, t308))) = some (r1, r2) := H
  have A3 := Aside0.mk A30
  clear A30
  replace H := Option.bind_eq_some_iff.mp H
  obtain ⟨t308, A40, H⟩ := H
  replace H : (some (t307, t308)) = some (r1, r2) := H
  have A4 := Aside0.mk A40
  clear A40
  simp only [Option.some.injEq, Prod.mk.injEq] at H
  obtain ⟨rfl, rfl⟩ := H
  go_enter Try.func23, Try.ntmps23
  go_wp2_with (first | ((with_reducible refine gD (N := 2) rfl ?_); refine bE3 2 #[.int .u64 0, .int .u64 0] 24 ?hr ?_; (case hr => first | (go_simp; done) | (go_simp; rfl)); intro gb303 hg w5 hbox hb; have n0_ := Aside0.mk (bS3 HB.out hb); have n1_ := Aside0.mk (hbox); have n2_ := Aside0.mk ((bZ3 hg HB.out)); have n3_ := Aside0.mk ((bZ3 hg HB.out)); clear HB; have HB := n0_; have BK303 := n1_; have GW303 := n2_; have GE303 := n3_; clear n0_ n1_ n2_ n3_; clear hb hbox hg) | ((with_reducible refine gC (f := 40) rfl ?_); (with_reducible refine gD (N := 4) rfl ?_); refine goesY_ (some 4) Try.func40 #[.slice A0 l0.length c0, .int .i64 64] ?_; (with_reducible refine (vernierref00_Shr.calls k _ _ l0 64 t304 _ ?side1 ?side2 A2.out).mono ?_); (case side1 => repeat (first | exact (Kd.C_below HR0.out HB.out) | (with_reducible refine Kd.C_alloc ?_ _) | (with_reducible refine Kd.C_drewN ?_ _) | (with_reducible refine Kd.C_drew ?_))); (case side2 => exact HC0.out); rintro e w6 ⟨v305, rfl, ho0, hb⟩; refine ⟨_, rfl, ?_⟩; have n0_ := Aside0.mk (Kd.R_lower ho0 (bZ (by repeat (first | (with_reducible first | exact HB.out | apply pA | apply pN | apply p1 | refine pS ?_ GE303.out) | exact HB.out)))); have n1_ := Aside0.mk (bB3 BK303.out hb); have n2_ := Aside0.mk (bS3 HB.out hb); clear BK303; clear HB; have HO306 := n0_; have BK303 := n1_; have HB := n2_; clear n0_ n1_ n2_; (try clear hb); (try clear hb2); (try clear hk); (try clear hi); (try clear ho0); obtain ⟨Ao7, co7, eo7⟩ := Kd.R_slice HO306.out; subst eo7) | ((with_reducible refine gC (f := 39) rfl ?_); (with_reducible refine gD (N := 5) rfl ?_); refine goesY_ (some 5) Try.func39 #[.slice Ao7 t304.length co7] ?_; (with_reducible refine (vernierref00_Word.calls k _ _ t304 t307 _ ?side1 ?side2 A3.out).mono ?_); (case side1 => repeat (first | exact (Kd.R_reads' HO306.out).2.2 | (with_reducible refine Kd.C_alloc ?_ _) | (with_reducible refine Kd.C_drewN ?_ _) | (with_reducible refine Kd.C_drew ?_))); (case side2 => exact (Kd.R_reads' HO306.out).2.1); rintro e w' ⟨rfl, ⟨nd, rfl⟩⟩; refine ⟨_, rfl, ?_⟩; (try (rw [drewN_self w6]; generalize hq_ : World.drewN w6 _ = w6; have n0_ : Aside0 (Kd.R (Kd.int .i64) 3 w6 w.heap.size (fun _ => True) (.slice Ao7 t304.length co7) t304) := ⟨by rw [← hq_]; exact (by (with_reducible repeat (first | apply Kd.R_alloc | apply Kd.R_drewN | apply Kd.R_drew)); exact HO306.out)⟩; have n1_ : Aside0 (w6.heap[gb303]? = some (.cells #[.int .u64 0, .int .u64 0] 24 (0, 0))) := ⟨by rw [← hq_]; exact (by (with_reducible repeat (first | refine bN ?_ _ | refine bD ?_ | refine bA ?_ _)); exact BK303.out)⟩; have n2_ : Aside0 (Below w.heap.size w w6) := ⟨by rw [← hq_]; exact (by repeat (first | (with_reducible first | exact HB.out | apply pA | apply pN | apply p1 | refine pS ?_ GE303.out) | exact HB.out))⟩; clear HO306 BK303 HB hq_; have HO306 := n0_; have BK303 := n1_; have HB := n2_; clear n0_ n1_ n2_))) | ((with_reducible refine gC (f := 39) rfl ?_); (with_reducible refine gD (N := 7) rfl ?_); refine goesY_ (some 7) Try.func39 #[.slice A0 l0.length c0] ?_; (with_reducible refine (vernierref00_Word.calls k _ _ l0 t308 _ ?side1 ?side2 A4.out).mono ?_); (case side1 => repeat (first | exact (Kd.C_below HR0.out HB.out) | (with_reducible refine Kd.C_alloc ?_ _) | (with_reducible refine Kd.C_drewN ?_ _) | (with_reducible refine Kd.C_drew ?_))); (case side2 => exact HC0.out); rintro e w' ⟨rfl, ⟨nd, rfl⟩⟩; refine ⟨_, rfl, ?_⟩; (try (rw [drewN_self w6]; generalize hq_ : World.drewN w6 _ = w6; have n0_ : Aside0 (Kd.R (Kd.int .i64) 3 w6 w.heap.size (fun _ => True) (.slice Ao7 t304.length co7) t304) := ⟨by rw [← hq_]; exact (by (with_reducible repeat (first | apply Kd.R_alloc | apply Kd.R_drewN | apply Kd.R_drew)); exact HO306.out)⟩; have n1_ : Aside0 (w6.heap[gb303]? = some (.cells #[.int .u64 0, .int .u64 0] 24 (0, 0))) := ⟨by rw [← hq_]; exact (by (with_reducible repeat (first | refine bN ?_ _ | refine bD ?_ | refine bA ?_ _)); exact BK303.out)⟩; have n2_ : Aside0 (Below w.heap.size w w6) := ⟨by rw [← hq_]; exact (by repeat (first | (with_reducible first | exact HB.out | apply pA | apply pN | apply p1 | refine pS ?_ GE303.out) | exact HB.out))⟩; clear HO306 BK303 HB hq_; have HO306 := n0_; have BK303 := n1_; have HB := n2_; clear n0_ n1_ n2_)); have hcz8_0 : w6.cell? ⟨gb303, 0, none⟩ = some (.int .u64 0) := (blk_cell BK303.out 0).trans rfl; have hcz8_1 : w6.cell? ⟨gb303, 1, none⟩ = some (.int .u64 0) := (blk_cell BK303.out 1).trans rfl; have hfz8_0 := blk_frozen BK303.out 0; have hfz8_1 := blk_frozen BK303.out 1))
  refine bodyPost_ret (results_cell_row rfl _ _ gb303 24 #[.int .u64 t307, .int .u64 t308] (0, 0) _ rfl (by (with_reducible repeat (first | refine bN ?_ _ | refine bD ?_ | refine bA ?_ _)); refine blk_put (cs := #[.int .u64 t307, .int .u64 0]) ?_ 1 _ rfl; (with_reducible repeat (first | refine bN ?_ _ | refine bD ?_ | refine bA ?_ _)); refine blk_put (cs := #[.int .u64 0, .int .u64 0]) ?_ 0 _ rfl; (with_reducible repeat (first | refine bN ?_ _ | refine bD ?_ | refine bA ?_ _)); exact BK303.out) Try.underlying24 rfl (by kernel_rfl)) rfl ?_
  exact ⟨by first | rfl | (simp [errW_none, errW_some] <;> rfl) | (simp [*, errW_none, errW_some] <;> rfl), by repeat (first | (with_reducible first | exact HB.out | apply pA | apply pN | apply p1 | refine pS ?_ GE303.out) | exact HB.out)⟩

end Go.Proofs.Ytcnpnnodgfpheaa.F
