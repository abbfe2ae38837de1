/- Functions of the given program as plain Lean functions, and for each a proof that the program's call comes to just these answers; no further conditions. (Written by a program of this repo out of the translation.) -/
import Derived.Test.YteekhbmffdmgjaaF0
import Derived.Test.YteekhbmffdmgjaaF11
import Derived.Test.YteekhbmffdmgjaaF22
import Derived.Test.YteekhbmffdmgjaaF24
import Derived.Test.YteekhbmffdmgjaaF27
namespace Go.Proofs.Yteekhbmffdmgjaa.F
open Go.RowKit Go.Proofs.YteekhbmffdmgjaaW.PrintWords Go.Proofs.YteekhbmffdmgjaaW.PrintLast Go.Proofs.YteekhbmffdmgjaaW.PrintMore
attribute [local go_sem high] xor_u64 xor_u32 eqErr25 neErr25 eqErrL25 neErrL25
attribute [local go_sem] max2_int min2_int max_two min_two max_three min_three max_four min_four   -- for this text's walks alone
set_option linter.unusedVariables false
set_option linter.unusedSimpArgs false

/-! ### vernierlaw03_PartDivs: function 10 -/
def vernierlaw03_PartDivs.f (k : Nat) (a0_0 : Int) (a0_1 : Int) (a1 : Int) : Option (Bool) := (vernierlaw03_up.f k).bind fun t610 => ((part_Div.f k a0_0 a0_1 a1).bind fun bt611 => ((vernierref03_Div.f k a0_0 a0_1 a1).bind fun bt614 => (if t610 = true then (if bt611.1 = bt614.1 then (if bt611.2.1 = bt614.2.1 then ((vernierlaw00_Code.f bt611.2.2).bind fun t617 => (some (t617 == bt614.2.2))) else (some false)) else (some false)) else (some false))))
theorem vernierlaw03_PartDivs.mono : ∀ a0 a1 a2 k, LeO (vernierlaw03_PartDivs.f k a0 a1 a2) (vernierlaw03_PartDivs.f (k + 1) a0 a1 a2) := by
  intro a0 a1 a2 k
  unfold vernierlaw03_PartDivs.f
  repeat' first
      | (with_reducible exact part_Div.mono _ _ _ _)
      | (with_reducible exact vernierlaw03_up.mono _)
      | (with_reducible exact vernierref03_Div.mono _ _ _ _)
      | (with_reducible exact LeO.refl _)
      | (with_reducible exact LeO.none _)
      | (with_reducible refine LeO.ite ?_ ?_)
      | (with_reducible refine LeO.bind ?_ (fun _ => ?_))
      | exact part_Div.mono _ _ _ _
      | exact vernierlaw03_up.mono _
      | exact vernierref03_Div.mono _ _ _ _
      | exact LeO.none _
      | refine LeO.ite ?_ ?_
      | refine LeO.bind ?_ (fun _ => ?_)
set_option maxHeartbeats 8000000 in
set_option maxRecDepth 100000 in
theorem vernierlaw03_PartDivs.calls (k : Nat) (a0_0 : Int) (a0_1 : Int) (a1 : Int) (r : Bool) (w : World) (h : vernierlaw03_PartDivs.f k a0_0 a0_1 a1 = some r) :
    Calls Try.prog 10 #[.agg #[.int .u64 a0_0, .int .u64 a0_1], .int .u64 a1] w fun e w' => e = .returned (.bool r) ∧ Below w.heap.size w w' := by
  have hu55 := Try.underlying55
  have HB := Aside0.mk (Below.refl w.heap.size w)
  have H : ((vernierlaw03_up.f k).bind fun t610 => ((part_Div.f k a0_0 a0_1 a1).bind fun bt611 => ((vernierref03_Div.f k a0_0 a0_1 a1).bind fun bt614 => (if t610 = true then (if bt611.1 = bt614.1 then (if bt611.2.1 = bt614.2.1 then ((vernierlaw00_Code.f bt611.2.2).bind fun t617 => (some (t617 == bt614.2.2))) else (some false)) else (some false)) else (some false))))) = some r := h
  clear h
  replace H := Option.bind_eq_some_iff.mp H
  obtain ⟨t610, A30, H⟩ := H
  replace H : ((part_Div.f k a0_0 a0_1 a1).bind fun bt611 => ((vernierref03_Div.f k a0_0 a0_1 a1).bind fun bt614 => (if t610 = true then (if bt611.1 = bt614.1 then (if bt611.2.1 = bt614.2.1 then ((vernierlaw00_Code.f bt611.2.2).bind fun t617 => (some (t617 == bt614.2.2))) else (some false)) else (some false)) else (some false)))) = some r := H
  have A3 := Aside0.mk A30
  clear A30
  replace H := Option.bind_eq_some_iff.mp H
  obtain ⟨⟨t611, t612, t613⟩, A40, H⟩ := H
  replace H : ((vernierref03_Div.f k a0_0 a0_1 a1).bind fun bt614 => (if t610 = true then (if t611 = bt614.1 then (if t612 = bt614.2.1 then ((vernierlaw00_Code.f t613).bind fun t617 => (some (t617 == bt614.2.2))) else (some false)) else (some false)) else (some false))) = some r := H
  have A4 := Aside0.mk A40
  clear A40
  replace H := Option.bind_eq_some_iff.mp H
  obtain ⟨⟨t614, t615, t616⟩, A50, H⟩ := H
  replace H : (if t610 = true then (if t611 = t614 then (if t612 = t615 then ((vernierlaw00_Code.f t613).bind fun t617 => (some (t617 == t616))) else (some false)) else (some false)) else (some false)) = some r := H
  have A5 := Aside0.mk A50
  clear A50
  by_cases c6 : t610 = true
  · subst c6
    have H1 : (if t611 = t614 then (if t612 = t615 then ((vernierlaw00_Code.f t613).bind fun t617 => (some (t617 == t616))) else (some false)) else (some false)) = some r := by rw [if_pos rfl] at H; exact H
    clear H
    have H := H1
    clear H1
    by_cases c7 : t611 = t614
    · rw [if_pos c7] at H
      have c7b0 : (t611 == t614) = true := beq_iff_eq.mpr c7
      have c7b1 : (t611 != t614) = false := bne_eq_false_iff_eq.mpr c7
      clear c7
      by_cases c8 : t612 = t615
      · rw [if_pos c8] at H
        have c8b0 : (t612 == t615) = true := beq_iff_eq.mpr c8
        have c8b1 : (t612 != t615) = false := bne_eq_false_iff_eq.mpr c8
        clear c8
        replace H := Option.bind_eq_some_iff.mp H
        obtain ⟨t617, A90, H⟩ := H
        replace H : (some (t617 == t616)) = some r := H
        have A9 := Aside0.mk A90
        clear A90
        obtain rfl := Option.some.inj H
        go_enter Try.func10, Try.ntmps10
        go_wp2_with (first | ((with_reducible refine gD (N := 2) rfl ?_); refine bE3 2 #[.int .u64 a0_0, .int .u64 a0_1] 55 ?hr ?_; (case hr => first | (go_simp; done) | (go_simp; rfl)); intro gb609 hg w10 hbox hb; have n0_ := Aside0.mk (bS3 HB.out hb); have n1_ := Aside0.mk (hbox); have n2_ := Aside0.mk ((bZ3 hg HB.out)); have n3_ := Aside0.mk ((bZ3 hg HB.out)); clear HB; have HB := n0_; have BK609 := n1_; have GW609 := n2_; have GE609 := n3_; clear n0_ n1_ n2_ n3_; clear hb hbox hg) | ((with_reducible refine gC (f := 43) rfl ?_); refine goesY_ (some 12) Try.func43 #[] ?_; (with_reducible refine (vernierlaw03_up.calls k  true _ A3.out).mono ?_); rintro e w11 ⟨rfl, hb⟩; refine ⟨_, rfl, ?_⟩; have n0_ := Aside0.mk (bB3 BK609.out hb); have n1_ := Aside0.mk (bS3 HB.out hb); clear BK609; clear HB; have BK609 := n0_; have HB := n1_; clear n0_ n1_; (try clear hb); (try clear hb2); (try clear hk); (try clear hi); have hcz12_0 : w11.cell? ⟨gb609, 0, none⟩ = some (.int .u64 a0_0) := (blk_cell BK609.out 0).trans rfl; have hcz12_1 : w11.cell? ⟨gb609, 1, none⟩ = some (.int .u64 a0_1) := (blk_cell BK609.out 1).trans rfl; have hfz12_0 := blk_frozen BK609.out 0; have hfz12_1 := blk_frozen BK609.out 1) | ((with_reducible refine gC (f := 44) rfl ?_); refine goesY_ (some 16) Try.func44 #[.agg #[.int .u64 a0_0, .int .u64 a0_1], .int .u64 a1] ?_; (with_reducible refine (part_Div.calls k a0_0 a0_1 a1 t611 t612 t613 _ A4.out).mono ?_); rintro e w13 ⟨rfl, hb⟩; refine ⟨_, rfl, ?_⟩; have n0_ := Aside0.mk (bB3 BK609.out hb); have n1_ := Aside0.mk (bS3 HB.out hb); clear BK609; clear HB; have BK609 := n0_; have HB := n1_; clear n0_ n1_; (try clear hb); (try clear hb2); (try clear hk); (try clear hi); (try simp only [errW_none, errW_some]); have hcz14_0 : w13.cell? ⟨gb609, 0, none⟩ = some (.int .u64 a0_0) := (blk_cell BK609.out 0).trans rfl; have hcz14_1 : w13.cell? ⟨gb609, 1, none⟩ = some (.int .u64 a0_1) := (blk_cell BK609.out 1).trans rfl; have hfz14_0 := blk_frozen BK609.out 0; have hfz14_1 := blk_frozen BK609.out 1) | ((with_reducible refine gC (f := 45) rfl ?_); refine goesY_ (some 23) Try.func45 #[.agg #[.int .u64 a0_0, .int .u64 a0_1], .int .u64 a1] ?_; (with_reducible refine (vernierref03_Div.calls k a0_0 a0_1 a1 t614 t615 t616 _ A5.out).mono ?_); rintro e w15 ⟨rfl, hb⟩; refine ⟨_, rfl, ?_⟩; have n0_ := Aside0.mk (bB3 BK609.out hb); have n1_ := Aside0.mk (bS3 HB.out hb); clear BK609; clear HB; have BK609 := n0_; have HB := n1_; clear n0_ n1_; (try clear hb); (try clear hb2); (try clear hk); (try clear hi); have CA9 := fun W => vernierlaw00_Code.calls t613 t617 W A9.out; try simp only [errW_none, errW_some] at CA9) | (go_at_call 20; (with_reducible refine (CA9 _).mono ?_); rintro e w' ⟨rfl, ⟨nd, rfl⟩⟩))
        go_ret
        exact ⟨by first | rfl | (simp [errW_none, errW_some] <;> rfl) | (simp [*, errW_none, errW_some] <;> rfl), by repeat (first | (with_reducible first | exact HB.out | apply pA | apply pN | apply p1 | refine pS ?_ GE609.out) | exact HB.out)⟩
      · rw [if_neg c8] at H
        have c8b0 : (t612 == t615) = false := beq_eq_false_iff_ne.mpr c8
        have c8b1 : (t612 != t615) = true := bne_iff_ne.mpr c8
        obtain rfl := Option.some.inj H
        go_enter Try.func10, Try.ntmps10
        go_wp2_with (first | ((with_reducible refine gD (N := 2) rfl ?_); refine bE3 2 #[.int .u64 a0_0, .int .u64 a0_1] 55 ?hr ?_; (case hr => first | (go_simp; done) | (go_simp; rfl)); intro gb609 hg w16 hbox hb; have n0_ := Aside0.mk (bS3 HB.out hb); have n1_ := Aside0.mk (hbox); have n2_ := Aside0.mk ((bZ3 hg HB.out)); have n3_ := Aside0.mk ((bZ3 hg HB.out)); clear HB; have HB := n0_; have BK609 := n1_; have GW609 := n2_; have GE609 := n3_; clear n0_ n1_ n2_ n3_; clear hb hbox hg) | ((with_reducible refine gC (f := 43) rfl ?_); refine goesY_ (some 12) Try.func43 #[] ?_; (with_reducible refine (vernierlaw03_up.calls k  true _ A3.out).mono ?_); rintro e w17 ⟨rfl, hb⟩; refine ⟨_, rfl, ?_⟩; have n0_ := Aside0.mk (bB3 BK609.out hb); have n1_ := Aside0.mk (bS3 HB.out hb); clear BK609; clear HB; have BK609 := n0_; have HB := n1_; clear n0_ n1_; (try clear hb); (try clear hb2); (try clear hk); (try clear hi); have hcz18_0 : w17.cell? ⟨gb609, 0, none⟩ = some (.int .u64 a0_0) := (blk_cell BK609.out 0).trans rfl; have hcz18_1 : w17.cell? ⟨gb609, 1, none⟩ = some (.int .u64 a0_1) := (blk_cell BK609.out 1).trans rfl; have hfz18_0 := blk_frozen BK609.out 0; have hfz18_1 := blk_frozen BK609.out 1) | ((with_reducible refine gC (f := 44) rfl ?_); refine goesY_ (some 16) Try.func44 #[.agg #[.int .u64 a0_0, .int .u64 a0_1], .int .u64 a1] ?_; (with_reducible refine (part_Div.calls k a0_0 a0_1 a1 t611 t612 t613 _ A4.out).mono ?_); rintro e w19 ⟨rfl, hb⟩; refine ⟨_, rfl, ?_⟩; have n0_ := Aside0.mk (bB3 BK609.out hb); have n1_ := Aside0.mk (bS3 HB.out hb); clear BK609; clear HB; have BK609 := n0_; have HB := n1_; clear n0_ n1_; (try clear hb); (try clear hb2); (try clear hk); (try clear hi); (try simp only [errW_none, errW_some]); have hcz20_0 : w19.cell? ⟨gb609, 0, none⟩ = some (.int .u64 a0_0) := (blk_cell BK609.out 0).trans rfl; have hcz20_1 : w19.cell? ⟨gb609, 1, none⟩ = some (.int .u64 a0_1) := (blk_cell BK609.out 1).trans rfl; have hfz20_0 := blk_frozen BK609.out 0; have hfz20_1 := blk_frozen BK609.out 1) | ((with_reducible refine gC (f := 45) rfl ?_); refine goesY_ (some 23) Try.func45 #[.agg #[.int .u64 a0_0, .int .u64 a0_1], .int .u64 a1] ?_; (with_reducible refine (vernierref03_Div.calls k a0_0 a0_1 a1 t614 t615 t616 _ A5.out).mono ?_); rintro e w21 ⟨rfl, hb⟩; refine ⟨_, rfl, ?_⟩; have n0_ := Aside0.mk (bB3 BK609.out hb); have n1_ := Aside0.mk (bS3 HB.out hb); clear BK609; clear HB; have BK609 := n0_; have HB := n1_; clear n0_ n1_; (try clear hb); (try clear hb2); (try clear hk); (try clear hi)))
        go_ret
        exact ⟨by first | rfl | (simp [errW_none, errW_some] <;> rfl) | (simp [*, errW_none, errW_some] <;> rfl), by repeat (first | (with_reducible first | exact HB.out | apply pA | apply pN | apply p1 | refine pS ?_ GE609.out) | exact HB.out)⟩
    · rw [if_neg c7] at H
      have c7b0 : (t611 == t614) = false := beq_eq_false_iff_ne.mpr c7
      have c7b1 : (t611 != t614) = true := bne_iff_ne.mpr c7
      obtain rfl := Option.some.inj H
      go_enter Try.func10, Try.ntmps10
      go_wp2_with (first | ((with_reducible refine gD (N := 2) rfl ?_); refine bE3 2 #[.int .u64 a0_0, .int .u64 a0_1] 55 ?hr ?_; (case hr => first | (go_simp; done) | (go_simp; rfl)); intro gb609 hg w22 hbox hb; have n0_ := Aside0.mk (bS3 HB.out hb); have n1_ := Aside0.mk (hbox); have n2_ := Aside0.mk ((bZ3 hg HB.out)); have n3_ := Aside0.mk ((bZ3 hg HB.out)); clear HB; have HB := n0_; have BK609 := n1_; have GW609 := n2_; have GE609 := n3_; clear n0_ n1_ n2_ n3_; clear hb hbox hg) | ((with_reducible refine gC (f := 43) rfl ?_); refine goesY_ (some 12) Try.func43 #[] ?_; (with_reducible refine (vernierlaw03_up.calls k  true _ A3.out).mono ?_); rintro e w23 ⟨rfl, hb⟩; refine ⟨_, rfl, ?_⟩; have n0_ := Aside0.mk (bB3 BK609.out hb); have n1_ := Aside0.mk (bS3 HB.out hb); clear BK609; clear HB; have BK609 := n0_; have HB := n1_; clear n0_ n1_; (try clear hb); (try clear hb2); (try clear hk); (try clear hi); have hcz24_0 : w23.cell? ⟨gb609, 0, none⟩ = some (.int .u64 a0_0) := (blk_cell BK609.out 0).trans rfl; have hcz24_1 : w23.cell? ⟨gb609, 1, none⟩ = some (.int .u64 a0_1) := (blk_cell BK609.out 1).trans rfl; have hfz24_0 := blk_frozen BK609.out 0; have hfz24_1 := blk_frozen BK609.out 1) | ((with_reducible refine gC (f := 44) rfl ?_); refine goesY_ (some 16) Try.func44 #[.agg #[.int .u64 a0_0, .int .u64 a0_1], .int .u64 a1] ?_; (with_reducible refine (part_Div.calls k a0_0 a0_1 a1 t611 t612 t613 _ A4.out).mono ?_); rintro e w25 ⟨rfl, hb⟩; refine ⟨_, rfl, ?_⟩; have n0_ := Aside0.mk (bB3 BK609.out hb); have n1_ := Aside0.mk (bS3 HB.out hb); clear BK609; clear HB; have BK609 := n0_; have HB := n1_; clear n0_ n1_; (try clear hb); (try clear hb2); (try clear hk); (try clear hi); (try simp only [errW_none, errW_some]); have hcz26_0 : w25.cell? ⟨gb609, 0, none⟩ = some (.int .u64 a0_0) := (blk_cell BK609.out 0).trans rfl; have hcz26_1 : w25.cell? ⟨gb609, 1, none⟩ = some (.int .u64 a0_1) := (blk_cell BK609.out 1).trans rfl; have hfz26_0 := blk_frozen BK609.out 0; have hfz26_1 := blk_frozen BK609.out 1) | ((with_reducible refine gC (f := 45) rfl ?_); refine goesY_ (some 23) Try.func45 #[.agg #[.int .u64 a0_0, .int .u64 a0_1], .int .u64 a1] ?_; (with_reducible refine (vernierref03_Div.calls k a0_0 a0_1 a1 t614 t615 t616 _ A5.out).mono ?_); rintro e w27 ⟨rfl, hb⟩; refine ⟨_, rfl, ?_⟩; have n0_ := Aside0.mk (bB3 BK609.out hb); have n1_ := Aside0.mk (bS3 HB.out hb); clear BK609; clear HB; have BK609 := n0_; have HB := n1_; clear n0_ n1_; (try clear hb); (try clear hb2); (try clear hk); (try clear hi)))
      go_ret
      exact ⟨by first | rfl | (simp [errW_none, errW_some] <;> rfl) | (simp [*, errW_none, errW_some] <;> rfl), by repeat (first | (with_reducible first | exact HB.out | apply pA | apply pN | apply p1 | refine pS ?_ GE609.out) | exact HB.out)⟩
  · replace c6 := Bool.eq_false_iff.mpr c6
    subst c6
    have H1 : (some false) = some r := by rw [if_neg (show ¬ (false = true) by decide)] at H; exact H
    clear H
    have H := H1
    clear H1
    obtain rfl := Option.some.inj H
    go_enter Try.func10, Try.ntmps10
    go_wp2_with (first | ((with_reducible refine gD (N := 2) rfl ?_); refine bE3 2 #[.int .u64 a0_0, .int .u64 a0_1] 55 ?hr ?_; (case hr => first | (go_simp; done) | (go_simp; rfl)); intro gb609 hg w28 hbox hb; have n0_ := Aside0.mk (bS3 HB.out hb); have n1_ := Aside0.mk (hbox); have n2_ := Aside0.mk ((bZ3 hg HB.out)); have n3_ := Aside0.mk ((bZ3 hg HB.out)); clear HB; have HB := n0_; have BK609 := n1_; have GW609 := n2_; have GE609 := n3_; clear n0_ n1_ n2_ n3_; clear hb hbox hg) | ((with_reducible refine gC (f := 43) rfl ?_); refine goesY_ (some 12) Try.func43 #[] ?_; (with_reducible refine (vernierlaw03_up.calls k  false _ A3.out).mono ?_); rintro e w29 ⟨rfl, hb⟩; refine ⟨_, rfl, ?_⟩; have n0_ := Aside0.mk (bB3 BK609.out hb); have n1_ := Aside0.mk (bS3 HB.out hb); clear BK609; clear HB; have BK609 := n0_; have HB := n1_; clear n0_ n1_; (try clear hb); (try clear hb2); (try clear hk); (try clear hi); have hcz30_0 : w29.cell? ⟨gb609, 0, none⟩ = some (.int .u64 a0_0) := (blk_cell BK609.out 0).trans rfl; have hcz30_1 : w29.cell? ⟨gb609, 1, none⟩ = some (.int .u64 a0_1) := (blk_cell BK609.out 1).trans rfl; have hfz30_0 := blk_frozen BK609.out 0; have hfz30_1 := blk_frozen BK609.out 1) | ((with_reducible refine gC (f := 44) rfl ?_); refine goesY_ (some 16) Try.func44 #[.agg #[.int .u64 a0_0, .int .u64 a0_1], .int .u64 a1] ?_; (with_reducible refine (part_Div.calls k a0_0 a0_1 a1 t611 t612 t613 _ A4.out).mono ?_); rintro e w31 ⟨rfl, hb⟩; refine ⟨_, rfl, ?_⟩; have n0_ := Aside0.mk (bB3 BK609.out hb); have n1_ := Aside0.mk (bS3 HB.out hb); clear BK609; clear HB; have BK609 := n0_; have HB := n1_; clear n0_ n1_; (try clear hb); (try clear hb2); (try clear hk); (try clear hi); (try simp only [errW_none, errW_some]); have hcz32_0 : w31.cell? ⟨gb609, 0, none⟩ = some (.int .u64 a0_0) := (blk_cell BK609.out 0).trans rfl; have hcz32_1 : w31.cell? ⟨gb609, 1, none⟩ = some (.int .u64 a0_1) := (blk_cell BK609.out 1).trans rfl; have hfz32_0 := blk_frozen BK609.out 0; have hfz32_1 := blk_frozen BK609.out 1) | ((with_reducible refine gC (f := 45) rfl ?_); refine goesY_ (some 23) Try.func45 #[.agg #[.int .u64 a0_0, .int .u64 a0_1], .int .u64 a1] ?_; (with_reducible refine (vernierref03_Div.calls k a0_0 a0_1 a1 t614 t615 t616 _ A5.out).mono ?_); rintro e w33 ⟨rfl, hb⟩; refine ⟨_, rfl, ?_⟩; have n0_ := Aside0.mk (bB3 BK609.out hb); have n1_ := Aside0.mk (bS3 HB.out hb); clear BK609; clear HB; have BK609 := n0_; have HB := n1_; clear n0_ n1_; (try clear hb); (try clear hb2); (try clear hk); (try clear hi)))
    go_ret
    exact ⟨by first | rfl | (simp [errW_none, errW_some] <;> rfl) | (simp [*, errW_none, errW_some] <;> rfl), by repeat (first | (with_reducible first | exact HB.out | apply pA | apply pN | apply p1 | refine pS ?_ GE609.out) | exact HB.out)⟩

/-- THE ONE PURE STATEMENT of vernierlaw03_PartDivs: yours. -/
def vernierlaw03_PartDivs.Pure : Prop := ∀ (a0_0 : Int) (a0_1 : Int) (a1 : Int), (Lit.int .u64 a0_0).wf = true → (Lit.int .u64 a0_1).wf = true → (Lit.int .u64 a1).wf = true → ∃ k, vernierlaw03_PartDivs.f k a0_0 a0_1 a1 = some true
theorem vernierlaw03_PartDivs.walk (P : vernierlaw03_PartDivs.Pure) (a0_0 : Int) (a0_1 : Int) (a1 : Int) (w : World) (w0_0 : (Lit.int .u64 a0_0).wf = true) (w0_1 : (Lit.int .u64 a0_1).wf = true) (w1 : (Lit.int .u64 a1).wf = true) :
    Calls Try.prog 10 #[.agg #[.int .u64 a0_0, .int .u64 a0_1], .int .u64 a1] w fun e w' => e = .returned (.bool true) ∧ Below w.heap.size w w' := by
  obtain ⟨k, h⟩ := P a0_0 a0_1 a1 w0_0 w0_1 w1
  refine (vernierlaw03_PartDivs.calls k a0_0 a0_1 a1 true w h).mono ?_
  rintro e w' ⟨rfl, hd⟩
  exact ⟨rfl, hd⟩

end Go.Proofs.Yteekhbmffdmgjaa.F
