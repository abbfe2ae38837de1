/- Functions of the given program as plain Lean functions, and for each a proof that the program's call comes to just these answers; no further conditions. (Written by a program of this repo out of the translation.) -/
import Derived.Test.YtlllaoihpkdpmaaDoorF0a
import Derived.Test.YtlllaoihpkdpmaaDoorF5a
import Derived.Test.YtlllaoihpkdpmaaDoorF6a
import Derived.Test.YtlllaoihpkdpmaaDoorF9a
import Derived.Test.YtlllaoihpkdpmaaDoorF10a
namespace Go.Proofs.YtlllaoihpkdpmaaDoor.F
open Go.RowKit Go.Proofs.YtlllaoihpkdpmaaDoorW.PrintWords Go.Proofs.YtlllaoihpkdpmaaDoorW.PrintLast Go.Proofs.YtlllaoihpkdpmaaDoorW.PrintMore
attribute [local go_sem high] xor_u64 xor_u32 eqErr25 neErr25 eqErrL25 neErrL25
attribute [local go_sem] max2_int min2_int max_two min_two max_three min_three max_four min_four   -- for this text's walks alone
set_option linter.unusedVariables false
set_option linter.unusedSimpArgs false
def ints_of.j0 : Nat → Int → Int → Int → Int → Bool → Int → Int → Option (Bool × Bool × Int)
 | 0, _, _, _, _, _, _, _ => none
 | k + 1, x1, x5, x6, x149000, x149001, x149002, x149003 => if x1 = 0 then (if x6 > 9223372036854775808 then (if x149001 = true then (some (decide ((IntKind.u64.wrap (x5 + 1)) > 0), false, IntKind.u64.wrap (x5 + 1))) else (some (false, false, IntKind.u64.wrap (x5 + 1)))) else (if x6 = 9223372036854775808 then (if (Go.bits .and .u64 x5 1) = 1 then (if x149001 = true then (some (decide ((IntKind.u64.wrap (x5 + 1)) > 0), false, IntKind.u64.wrap (x5 + 1))) else (some (false, false, IntKind.u64.wrap (x5 + 1)))) else (if x149001 = true then (some (decide (x5 > 0), false, x5)) else (some (false, false, x5)))) else (if x149001 = true then (some (decide (x5 > 0), false, x5)) else (some (false, false, x5))))) else (if x1 = 2 then (if x149001 = true then (some (decide (x5 > 0), false, x5)) else (if x6 > 0 then (some (false, false, IntKind.u64.wrap (x5 + 1))) else (some (false, false, x5)))) else (if x1 = 1 then (if x149001 = true then (if x6 > 0 then (some (decide ((IntKind.u64.wrap (x5 + 1)) > 0), false, IntKind.u64.wrap (x5 + 1))) else (some (decide (x5 > 0), false, x5))) else (some (false, false, x5))) else (if x149001 = true then (some (decide (x5 > 0), false, x5)) else (some (false, false, x5)))))
def ints_of.f (k : Nat) (a0_0 : Int) (a0_1 : Bool) (a0_2 : Int) (a0_3 : Int) (a1 : Int) : Option (Bool × Bool × Int) := if a0_2 > 63 then (some (a0_1, true, 0)) else (if (wrap64 (63 - a0_2)) = 0 then (ints_of.j0 k a1 a0_3 0 a0_0 a0_1 a0_2 a0_3) else (if (wrap64 (63 - a0_2)) < 64 then (if 0 ≤ (wrap64 (63 - a0_2)) then (if 0 ≤ (wrap64 (64 - (wrap64 (63 - a0_2)))) then (ints_of.j0 k a1 (shr .u64 a0_3 (wrap64 (63 - a0_2))) (shl .u64 a0_3 (wrap64 (64 - (wrap64 (63 - a0_2))))) a0_0 a0_1 a0_2 a0_3) else (none)) else (none)) else (if (wrap64 (63 - a0_2)) = 64 then (ints_of.j0 k a1 0 a0_3 a0_0 a0_1 a0_2 a0_3) else (ints_of.j0 k a1 0 1 a0_0 a0_1 a0_2 a0_3))))
set_option maxHeartbeats 8000000 in
set_option maxRecDepth 100000 in
theorem ints_of.calls (k : Nat) (a0_0 : Int) (a0_1 : Bool) (a0_2 : Int) (a0_3 : Int) (a1 : Int) (r1 : Bool) (r2 : Bool) (r3 : Int) (w : World) (h : ints_of.f k a0_0 a0_1 a0_2 a0_3 a1 = some (r1, r2, r3)) :
  Calls Tryd.prog 32 #[.agg #[.int .i64 a0_0, .bool a0_1, .int .i64 a0_2, .int .u64 a0_3], .int .i64 a1] w fun e w' => e = .returned (.agg #[.bool r1, .bool r2, .int .u64 r3]) ∧ Below w.heap.size w w' := by
 have hu52 := Tryd.underlying52
 have hu47 := Tryd.underlying47
 have HB := Aside0.mk (Below.refl w.heap.size w)
 have H : (if a0_2 > 63 then (some (a0_1, true, 0)) else (if (wrap64 (63 - a0_2)) = 0 then (ints_of.j0 k a1 a0_3 0 a0_0 a0_1 a0_2 a0_3) else (if (wrap64 (63 - a0_2)) < 64 then (if 0 ≤ (wrap64 (63 - a0_2)) then (if 0 ≤ (wrap64 (64 - (wrap64 (63 - a0_2)))) then (ints_of.j0 k a1 (shr .u64 a0_3 (wrap64 (63 - a0_2))) (shl .u64 a0_3 (wrap64 (64 - (wrap64 (63 - a0_2))))) a0_0 a0_1 a0_2 a0_3) else (none)) else (none)) else (if (wrap64 (63 - a0_2)) = 64 then (ints_of.j0 k a1 0 a0_3 a0_0 a0_1 a0_2 a0_3) else (ints_of.j0 k a1 0 1 a0_0 a0_1 a0_2 a0_3))))) = some (r1, r2, r3) := h
 clear h
 by_cases c3 : a0_2 > 63
 ·
  rw [if_pos c3] at H
  have c3b0 : decide (63 < a0_2) = true := decide_eq_true c3
  clear c3
  simp only [Option.some.injEq, Prod.mk.injEq] at H
  obtain ⟨rfl, rfl, rfl⟩ := H
  go_enter Tryd.func32, Tryd.ntmps32
  go_wp2_with (first | ((with_reducible refine gD (N := 2) rfl ?_); refine bE3 2 #[.int .i64 a0_0, .bool a0_1, .int .i64 a0_2, .int .u64 a0_3] 52 ?hr ?_; (case hr => first | (go_simp; done) | (go_simp; rfl)); intro gb148 hg w4 hbox hb; have BK148 := Aside0.mk (hbox); have GW148 := Aside0.mk ((bZ3 hg HB.out)); have GE148 := Aside0.mk ((bZ3 hg HB.out)); replace HB := Aside0.mk (bS3 HB.out hb); clear hb hbox hg) | ((with_reducible refine gD (N := 4) rfl ?_); refine bE3 4 #[.bool false, .bool false, .int .u64 0] 47 ?hr ?_; (case hr => first | (go_simp; done) | (go_simp; rfl)); intro gb149 hg w5 hbox hb; have BK149 := Aside0.mk (hbox); have GW149 := Aside0.mk ((bZ3 hg HB.out)); have GE149 := Aside0.mk ((bZ3 hg HB.out)); replace HB := Aside0.mk (bS3 HB.out hb); have NB148_149 := Aside0.mk ((bL3 hg BK148.out)); have NB149_148 := Aside0.mk ((bG3 hg BK148.out)); replace BK148 := Aside0.mk (bB3 BK148.out hb); clear hb hbox hg; have hnb6 := NB148_149.out; have hnc6 := NB149_148.out; obtain ⟨hcz7_0, hcz7_1, hcz7_2, hcz7_3, hfz7_0, hfz7_1, hfz7_2, hfz7_3⟩ := cl4 BK148.out; obtain ⟨hcz8_0, hcz8_1, hcz8_2, hfz8_0, hfz8_1, hfz8_2⟩ := cl3 BK149.out))
  repeat (go_quiet (first | ((with_reducible refine gD (N := 2) rfl ?_); refine bE3 2 #[.int .i64 a0_0, .bool a0_1, .int .i64 a0_2, .int .u64 a0_3] 52 ?hr ?_; (case hr => first | (go_simp; done) | (go_simp; rfl)); intro gb148 hg w4 hbox hb; have BK148 := Aside0.mk (hbox); have GW148 := Aside0.mk ((bZ3 hg HB.out)); have GE148 := Aside0.mk ((bZ3 hg HB.out)); replace HB := Aside0.mk (bS3 HB.out hb); clear hb hbox hg) | ((with_reducible refine gD (N := 4) rfl ?_); refine bE3 4 #[.bool false, .bool false, .int .u64 0] 47 ?hr ?_; (case hr => first | (go_simp; done) | (go_simp; rfl)); intro gb149 hg w5 hbox hb; have BK149 := Aside0.mk (hbox); have GW149 := Aside0.mk ((bZ3 hg HB.out)); have GE149 := Aside0.mk ((bZ3 hg HB.out)); replace HB := Aside0.mk (bS3 HB.out hb); have NB148_149 := Aside0.mk ((bL3 hg BK148.out)); have NB149_148 := Aside0.mk ((bG3 hg BK148.out)); replace BK148 := Aside0.mk (bB3 BK148.out hb); clear hb hbox hg; have hnb6 := NB148_149.out; have hnc6 := NB149_148.out; obtain ⟨hcz7_0, hcz7_1, hcz7_2, hcz7_3, hfz7_0, hfz7_1, hfz7_2, hfz7_3⟩ := cl4 BK148.out; obtain ⟨hcz8_0, hcz8_1, hcz8_2, hfz8_0, hfz8_1, hfz8_2⟩ := cl3 BK149.out)); try go_wp2_with (first | ((with_reducible refine gD (N := 2) rfl ?_); refine bE3 2 #[.int .i64 a0_0, .bool a0_1, .int .i64 a0_2, .int .u64 a0_3] 52 ?hr ?_; (case hr => first | (go_simp; done) | (go_simp; rfl)); intro gb148 hg w4 hbox hb; have BK148 := Aside0.mk (hbox); have GW148 := Aside0.mk ((bZ3 hg HB.out)); have GE148 := Aside0.mk ((bZ3 hg HB.out)); replace HB := Aside0.mk (bS3 HB.out hb); clear hb hbox hg) | ((with_reducible refine gD (N := 4) rfl ?_); refine bE3 4 #[.bool false, .bool false, .int .u64 0] 47 ?hr ?_; (case hr => first | (go_simp; done) | (go_simp; rfl)); intro gb149 hg w5 hbox hb; have BK149 := Aside0.mk (hbox); have GW149 := Aside0.mk ((bZ3 hg HB.out)); have GE149 := Aside0.mk ((bZ3 hg HB.out)); replace HB := Aside0.mk (bS3 HB.out hb); have NB148_149 := Aside0.mk ((bL3 hg BK148.out)); have NB149_148 := Aside0.mk ((bG3 hg BK148.out)); replace BK148 := Aside0.mk (bB3 BK148.out hb); clear hb hbox hg; have hnb6 := NB148_149.out; have hnc6 := NB149_148.out; obtain ⟨hcz7_0, hcz7_1, hcz7_2, hcz7_3, hfz7_0, hfz7_1, hfz7_2, hfz7_3⟩ := cl4 BK148.out; obtain ⟨hcz8_0, hcz8_1, hcz8_2, hfz8_0, hfz8_1, hfz8_2⟩ := cl3 BK149.out)))
  refine bodyPost_ret (results_cell_row rfl _ _ gb149 47 #[.bool a0_1, .bool true, .int .u64 0] (0, 0) _ rfl (bQ3 BK149.out) Tryd.underlying47 rfl (by kernel_rfl)) rfl ?_
  exact ⟨eR3, bR3 HB.out⟩
 ·
  rw [if_neg c3] at H
  have c3b0 : decide (63 < a0_2) = false := decide_eq_false c3
  clear c3
  have HC9 := Aside0.mk H
  clear H
  go_enter Tryd.func32, Tryd.ntmps32
  go_upto_block 0 with (first | ((with_reducible refine gD (N := 2) rfl ?_); refine bE3 2 #[.int .i64 a0_0, .bool a0_1, .int .i64 a0_2, .int .u64 a0_3] 52 ?hr ?_; (case hr => first | (go_simp; done) | (go_simp; rfl)); intro gb148 hg w10 hbox hb; have BK148 := Aside0.mk (hbox); have GW148 := Aside0.mk ((bZ3 hg HB.out)); have GE148 := Aside0.mk ((bZ3 hg HB.out)); replace HB := Aside0.mk (bS3 HB.out hb); clear hb hbox hg) | ((with_reducible refine gD (N := 4) rfl ?_); refine bE3 4 #[.bool false, .bool false, .int .u64 0] 47 ?hr ?_; (case hr => first | (go_simp; done) | (go_simp; rfl)); intro gb149 hg w11 hbox hb; have BK149 := Aside0.mk (hbox); have GW149 := Aside0.mk ((bZ3 hg HB.out)); have GE149 := Aside0.mk ((bZ3 hg HB.out)); replace HB := Aside0.mk (bS3 HB.out hb); have NB148_149 := Aside0.mk ((bL3 hg BK148.out)); have NB149_148 := Aside0.mk ((bG3 hg BK148.out)); replace BK148 := Aside0.mk (bB3 BK148.out hb); clear hb hbox hg; have hnb12 := NB148_149.out; have hnc12 := NB149_148.out; obtain ⟨hcz13_0, hcz13_1, hcz13_2, hcz13_3, hfz13_0, hfz13_1, hfz13_2, hfz13_3⟩ := cl4 BK148.out))
  repeat (go_quiet (first | ((with_reducible refine gD (N := 2) rfl ?_); refine bE3 2 #[.int .i64 a0_0, .bool a0_1, .int .i64 a0_2, .int .u64 a0_3] 52 ?hr ?_; (case hr => first | (go_simp; done) | (go_simp; rfl)); intro gb148 hg w10 hbox hb; have BK148 := Aside0.mk (hbox); have GW148 := Aside0.mk ((bZ3 hg HB.out)); have GE148 := Aside0.mk ((bZ3 hg HB.out)); replace HB := Aside0.mk (bS3 HB.out hb); clear hb hbox hg) | ((with_reducible refine gD (N := 4) rfl ?_); refine bE3 4 #[.bool false, .bool false, .int .u64 0] 47 ?hr ?_; (case hr => first | (go_simp; done) | (go_simp; rfl)); intro gb149 hg w11 hbox hb; have BK149 := Aside0.mk (hbox); have GW149 := Aside0.mk ((bZ3 hg HB.out)); have GE149 := Aside0.mk ((bZ3 hg HB.out)); replace HB := Aside0.mk (bS3 HB.out hb); have NB148_149 := Aside0.mk ((bL3 hg BK148.out)); have NB149_148 := Aside0.mk ((bG3 hg BK148.out)); replace BK148 := Aside0.mk (bB3 BK148.out hb); clear hb hbox hg; have hnb12 := NB148_149.out; have hnc12 := NB149_148.out; obtain ⟨hcz13_0, hcz13_1, hcz13_2, hcz13_3, hfz13_0, hfz13_1, hfz13_2, hfz13_3⟩ := cl4 BK148.out)); go_upto_block 0 with (first | ((with_reducible refine gD (N := 2) rfl ?_); refine bE3 2 #[.int .i64 a0_0, .bool a0_1, .int .i64 a0_2, .int .u64 a0_3] 52 ?hr ?_; (case hr => first | (go_simp; done) | (go_simp; rfl)); intro gb148 hg w10 hbox hb; have BK148 := Aside0.mk (hbox); have GW148 := Aside0.mk ((bZ3 hg HB.out)); have GE148 := Aside0.mk ((bZ3 hg HB.out)); replace HB := Aside0.mk (bS3 HB.out hb); clear hb hbox hg) | ((with_reducible refine gD (N := 4) rfl ?_); refine bE3 4 #[.bool false, .bool false, .int .u64 0] 47 ?hr ?_; (case hr => first | (go_simp; done) | (go_simp; rfl)); intro gb149 hg w11 hbox hb; have BK149 := Aside0.mk (hbox); have GW149 := Aside0.mk ((bZ3 hg HB.out)); have GE149 := Aside0.mk ((bZ3 hg HB.out)); replace HB := Aside0.mk (bS3 HB.out hb); have NB148_149 := Aside0.mk ((bL3 hg BK148.out)); have NB149_148 := Aside0.mk ((bG3 hg BK148.out)); replace BK148 := Aside0.mk (bB3 BK148.out hb); clear hb hbox hg; have hnb12 := NB148_149.out; have hnc12 := NB149_148.out; obtain ⟨hcz13_0, hcz13_1, hcz13_2, hcz13_3, hfz13_0, hfz13_1, hfz13_2, hfz13_3⟩ := cl4 BK148.out)))
  (try simp only [Act.put, lS_, lZ_, lC_])
  go_cut [5, 6] (fun v5 v6 wc => ∃ (kq : Nat) (x5_8 : Int) (x6_8 : Int), v5 = .int .u64 x5_8 ∧ v6 = .int .u64 x6_8 ∧ Aside0 (ints_of.j0 kq a1 x5_8 x6_8 a0_0 a0_1 a0_2 a0_3 = some (r1, r2, r3)) ∧ Aside0 (kq ≤ k) ∧ Aside0 (wc.heap[gb148]? = some (.cells #[.int .i64 a0_0, .bool a0_1, .int .i64 a0_2, .int .u64 a0_3] 52 (0, 0))) ∧ Aside0 (wc.heap[gb149]? = some (.cells #[.bool false, .bool false, .int .u64 0] 47 (0, 0))) ∧ Aside0 (Below w.heap.size w wc))
  case first =>
   have H := HC9.out
   clear HC9
   by_cases c14 : (wrap64 (63 - a0_2)) = 0
   ·
    rw [if_pos c14] at H
    have c14b0 : ((wrap64 (63 - a0_2)) == 0) = true := beq_iff_eq.mpr c14
    have c14b1 : ((wrap64 (63 - a0_2)) != 0) = false := bne_eq_false_iff_eq.mpr c14
    clear c14
    (first | rw [c14b0] | (simp only [i64_w, i32_w]; rw [c14b0]) | skip)
    have H' := Aside0.mk H
    clear H
    have hnb15 := NB148_149.out
    have hnc15 := NB149_148.out
    obtain ⟨hcz16_0, hcz16_1, hcz16_2, hcz16_3, hfz16_0, hfz16_1, hfz16_2, hfz16_3⟩ := cl4 BK148.out
    go_wp2
    repeat (go_quiet (fail); try go_wp2)
    go_meet
    case rel => exact ⟨_, (a0_3), (0), (by first | rfl | (simp; done) | (simp [*]; done)), (by first | rfl | (simp; done) | (simp [*]; done)), H', ⟨by first | omega | exact Nat.le_refl _⟩, ⟨bK3 BK148.out⟩, ⟨bK3 BK149.out⟩, ⟨bR3 HB.out⟩⟩
   ·
    rw [if_neg c14] at H
    have c14b0 : ((wrap64 (63 - a0_2)) == 0) = false := beq_eq_false_iff_ne.mpr c14
    have c14b1 : ((wrap64 (63 - a0_2)) != 0) = true := bne_iff_ne.mpr c14
    (first | rw [c14b0] | (simp only [i64_w, i32_w]; rw [c14b0]) | skip)
    by_cases c17 : (wrap64 (63 - a0_2)) < 64
    ·
     rw [if_pos c17] at H
     have c17b0 : decide ((wrap64 (63 - a0_2)) < 64) = true := decide_eq_true c17
     clear c17
     obtain ⟨ji18, hji18⟩ : ∃ j_ : Int, (wrap64 (63 - a0_2)) = j_ := ⟨_, rfl⟩
     replace H : (if 0 ≤ (ji18) then (if 0 ≤ (wrap64 (64 - (ji18))) then (ints_of.j0 k a1 (shr .u64 a0_3 (ji18)) (shl .u64 a0_3 (wrap64 (64 - (ji18)))) a0_0 a0_1 a0_2 a0_3) else (none)) else (none)) = some (r1, r2, r3) := by first | (rw [hji18] at H; exact H) | (simp only [hji18] at H ⊢; exact H)
     (try rw [hji18] at c14b0)
     (try rw [hji18] at c14b1)
     (try rw [hji18] at c17b0)
     have hji18w : (IntKind.i64.wrap (63 - a0_2)) = ji18 := (i64_w _).trans hji18
     by_cases c19 : 0 ≤ (ji18)
     ·
      rw [if_pos c19] at H
      have c19b0 := eq_true c19
      have c19b1 : decide (0 ≤ (ji18)) = true := decide_eq_true c19
      clear c19
      obtain ⟨ji20, hji20⟩ : ∃ j_ : Int, (shr .u64 a0_3 (ji18)) = j_ := ⟨_, rfl⟩
      replace H : (if 0 ≤ (wrap64 (64 - (ji18))) then (ints_of.j0 k a1 ji20 (shl .u64 a0_3 (wrap64 (64 - (ji18)))) a0_0 a0_1 a0_2 a0_3) else (none)) = some (r1, r2, r3) := by first | (rw [hji20] at H; exact H) | (simp only [hji20] at H ⊢; exact H)
      have hji20_ : (a0_3 / 2 ^ min (ji18).toNat 64) = ji20 := hji20
      have hji20z : (ji18) ≤ 64 → (a0_3 / 2 ^ (ji18).toNat) = ji20 := shr_small hji20
      obtain ⟨ji21, hji21⟩ : ∃ j_ : Int, (wrap64 (64 - (ji18))) = j_ := ⟨_, rfl⟩
      replace H : (if 0 ≤ (ji21) then (ints_of.j0 k a1 ji20 (shl .u64 a0_3 (ji21)) a0_0 a0_1 a0_2 a0_3) else (none)) = some (r1, r2, r3) := by first | (rw [hji21] at H; exact H) | (simp only [hji21] at H ⊢; exact H)
      have hji21w : (IntKind.i64.wrap (64 - (ji18))) = ji21 := (i64_w _).trans hji21
      by_cases c22 : 0 ≤ (ji21)
      ·
       rw [if_pos c22] at H
       have c22b0 := eq_true c22
       have c22b1 : decide (0 ≤ (ji21)) = true := decide_eq_true c22
       clear c22
       obtain ⟨ji23, hji23⟩ : ∃ j_ : Int, (shl .u64 a0_3 (ji21)) = j_ := ⟨_, rfl⟩
       replace H : (ints_of.j0 k a1 ji20 ji23 a0_0 a0_1 a0_2 a0_3) = some (r1, r2, r3) := by first | (rw [hji23] at H; exact H) | (simp only [hji23] at H ⊢; exact H)
       have hji23_ : (IntKind.u64.wrap (a0_3 * 2 ^ min (ji21).toNat 64)) = ji23 := hji23
       have hji23z : (ji21) ≤ 64 → (IntKind.u64.wrap (a0_3 * 2 ^ (ji21).toNat)) = ji23 := shl_small hji23
       have H' := Aside0.mk H
       clear H
       have hnb24 := NB148_149.out
       have hnc24 := NB149_148.out
       obtain ⟨hcz25_0, hcz25_1, hcz25_2, hcz25_3, hfz25_0, hfz25_1, hfz25_2, hfz25_3⟩ := cl4 BK148.out
       go_wp2
       repeat (go_quiet (fail); try go_wp2)
       go_meet
       case rel => exact ⟨_, (ji20), (ji23), (by first | rfl | (simp; done) | (simp only [← hji20] <;> (first | rfl | simp)) | (simp [*]; done)), (by first | rfl | (simp; done) | (simp only [← hji23] <;> (first | rfl | simp)) | (simp [*]; done)), H', ⟨by first | omega | exact Nat.le_refl _⟩, ⟨bK3 BK148.out⟩, ⟨bK3 BK149.out⟩, ⟨bR3 HB.out⟩⟩
      ·
       rw [if_neg c22] at H
       exact absurd H (by simp)
     ·
      rw [if_neg c19] at H
      exact absurd H (by simp)
    ·
     rw [if_neg c17] at H
     have c17b0 : decide ((wrap64 (63 - a0_2)) < 64) = false := decide_eq_false c17
     clear c17
     by_cases c26 : (wrap64 (63 - a0_2)) = 64
     ·
      rw [if_pos c26] at H
      have c26b0 : ((wrap64 (63 - a0_2)) == 64) = true := beq_iff_eq.mpr c26
      have c26b1 : ((wrap64 (63 - a0_2)) != 64) = false := bne_eq_false_iff_eq.mpr c26
      clear c26
      have H' := Aside0.mk H
      clear H
      have hnb27 := NB148_149.out
      have hnc27 := NB149_148.out
      obtain ⟨hcz28_0, hcz28_1, hcz28_2, hcz28_3, hfz28_0, hfz28_1, hfz28_2, hfz28_3⟩ := cl4 BK148.out
      go_wp2
      repeat (go_quiet (fail); try go_wp2)
      go_meet
      case rel => exact ⟨_, (0), (a0_3), (by first | rfl | (simp; done) | (simp [*]; done)), (by first | rfl | (simp; done) | (simp [*]; done)), H', ⟨by first | omega | exact Nat.le_refl _⟩, ⟨bK3 BK148.out⟩, ⟨bK3 BK149.out⟩, ⟨bR3 HB.out⟩⟩
     ·
      rw [if_neg c26] at H
      have c26b0 : ((wrap64 (63 - a0_2)) == 64) = false := beq_eq_false_iff_ne.mpr c26
      have c26b1 : ((wrap64 (63 - a0_2)) != 64) = true := bne_iff_ne.mpr c26
      have H' := Aside0.mk H
      clear H
      go_wp2
      repeat (go_quiet (fail); try go_wp2)
      go_meet
      case rel => exact ⟨_, (0), (1), (by first | rfl | (simp; done) | (simp [*]; done)), (by first | rfl | (simp; done) | (simp [*]; done)), H', ⟨by first | omega | exact Nat.le_refl _⟩, ⟨bK3 BK148.out⟩, ⟨bK3 BK149.out⟩, ⟨bR3 HB.out⟩⟩
  case rest =>
   clear HC9
   try clear c1
   try clear c2
   try clear p2
   try clear c3
   try clear c3b0
   try clear c6
   try clear p6
   try clear c12
   try clear c14
   try clear c14b0
   try clear c14b1
   try clear c15
   try clear c17
   try clear c17b0
   try clear c19
   try clear c19b0
   try clear c19b1
   try clear c22
   try clear c22b0
   try clear c22b1
   try clear c24
   try clear c26
   try clear c26b0
   try clear c26b1
   try clear c27
   try clear hcz13_0 hcz13_1 hcz13_2 hcz13_3
   try clear hcz16_0 hcz16_1 hcz16_2 hcz16_3
   try clear hcz25_0 hcz25_1 hcz25_2 hcz25_3
   try clear hcz28_0 hcz28_1 hcz28_2 hcz28_3
   try clear hcz7_0 hcz7_1 hcz7_2 hcz7_3
   try clear hcz8_0 hcz8_1 hcz8_2
   try clear hfz13_0 hfz13_1 hfz13_2 hfz13_3
   try clear hfz16_0 hfz16_1 hfz16_2 hfz16_3
   try clear hfz25_0 hfz25_1 hfz25_2 hfz25_3
   try clear hfz28_0 hfz28_1 hfz28_2 hfz28_3
   try clear hfz7_0 hfz7_1 hfz7_2 hfz7_3
   try clear hfz8_0 hfz8_1 hfz8_2
   obtain ⟨kq, x5_8, x6_8, rfl, rfl, HA, HJ8, BK148, BK149, HB⟩ := hcut
   cases kq with
   | zero => exact absurd HA.out (by simp [ints_of.j0])
   | succ kj8 =>
    have H := HA.out
    clear HA
    simp only [ints_of.j0] at H
    by_cases c29 : a1 = 0
    ·
     rw [if_pos c29] at H
     have c29b0 : (a1 == 0) = true := beq_iff_eq.mpr c29
     have c29b1 : (a1 != 0) = false := bne_eq_false_iff_eq.mpr c29
     clear c29
     by_cases c30 : x6_8 > 9223372036854775808
     ·
      rw [if_pos c30] at H
      have c30b0 : decide (9223372036854775808 < x6_8) = true := decide_eq_true c30
      clear c30
      by_cases c31 : a0_1 = true
      ·
       subst c31
       rw [if_pos rfl] at H
       simp only [Option.some.injEq, Prod.mk.injEq] at H
       obtain ⟨rfl, rfl, rfl⟩ := H
       have hnb32 := NB148_149.out
       have hnc32 := NB149_148.out
       obtain ⟨hcz33_0, hcz33_1, hcz33_2, hcz33_3, hfz33_0, hfz33_1, hfz33_2, hfz33_3⟩ := cl4 BK148.out
       obtain ⟨hcz34_0, hcz34_1, hcz34_2, hfz34_0, hfz34_1, hfz34_2⟩ := cl3 BK149.out
       go_wp2
       repeat (go_quiet (fail); try go_wp2)
       refine bodyPost_ret (results_cell_row rfl _ _ gb149 47 #[.bool (decide ((IntKind.u64.wrap (x5_8 + 1)) > 0)), .bool false, .int .u64 (IntKind.u64.wrap (x5_8 + 1))] (0, 0) _ rfl (bQ3 BK149.out) Tryd.underlying47 rfl (by kernel_rfl)) rfl ?_
       exact ⟨eR3, bR3 HB.out⟩
      ·
       replace c31 := Bool.eq_false_iff.mpr c31
       subst c31
       rw [if_neg (show ¬ (false = true) by decide)] at H
       simp only [Option.some.injEq, Prod.mk.injEq] at H
       obtain ⟨rfl, rfl, rfl⟩ := H
       have hnb35 := NB148_149.out
       have hnc35 := NB149_148.out
       obtain ⟨hcz36_0, hcz36_1, hcz36_2, hcz36_3, hfz36_0, hfz36_1, hfz36_2, hfz36_3⟩ := cl4 BK148.out
       obtain ⟨hcz37_0, hcz37_1, hcz37_2, hfz37_0, hfz37_1, hfz37_2⟩ := cl3 BK149.out
       go_wp2
       repeat (go_quiet (fail); try go_wp2)
       refine bodyPost_ret (results_cell_row rfl _ _ gb149 47 #[.bool false, .bool false, .int .u64 (IntKind.u64.wrap (x5_8 + 1))] (0, 0) _ rfl (bQ3 BK149.out) Tryd.underlying47 rfl (by kernel_rfl)) rfl ?_
       exact ⟨eR3, bR3 HB.out⟩
     ·
      rw [if_neg c30] at H
      have c30b0 : decide (9223372036854775808 < x6_8) = false := decide_eq_false c30
      clear c30
      by_cases c38 : x6_8 = 9223372036854775808
      ·
       rw [if_pos c38] at H
       have c38b0 : (x6_8 == 9223372036854775808) = true := beq_iff_eq.mpr c38
       have c38b1 : (x6_8 != 9223372036854775808) = false := bne_eq_false_iff_eq.mpr c38
       clear c38
       by_cases c39 : (Go.bits .and .u64 x5_8 1) = 1
       ·
        rw [if_pos c39] at H
        have c39b0 : ((Go.bits .and .u64 x5_8 1) == 1) = true := beq_iff_eq.mpr c39
        have c39b1 : ((Go.bits .and .u64 x5_8 1) != 1) = false := bne_eq_false_iff_eq.mpr c39
        clear c39
        by_cases c40 : a0_1 = true
        ·
         subst c40
         rw [if_pos rfl] at H
         simp only [Option.some.injEq, Prod.mk.injEq] at H
         obtain ⟨rfl, rfl, rfl⟩ := H
         have hnb41 := NB148_149.out
         have hnc41 := NB149_148.out
         obtain ⟨hcz42_0, hcz42_1, hcz42_2, hcz42_3, hfz42_0, hfz42_1, hfz42_2, hfz42_3⟩ := cl4 BK148.out
         obtain ⟨hcz43_0, hcz43_1, hcz43_2, hfz43_0, hfz43_1, hfz43_2⟩ := cl3 BK149.out
         go_wp2
         repeat (go_quiet (fail); try go_wp2)
         refine bodyPost_ret (results_cell_row rfl _ _ gb149 47 #[.bool (decide ((IntKind.u64.wrap (x5_8 + 1)) > 0)), .bool false, .int .u64 (IntKind.u64.wrap (x5_8 + 1))] (0, 0) _ rfl (bQ3 BK149.out) Tryd.underlying47 rfl (by kernel_rfl)) rfl ?_
         exact ⟨eR3, bR3 HB.out⟩
        ·
         replace c40 := Bool.eq_false_iff.mpr c40
         subst c40
         rw [if_neg (show ¬ (false = true) by decide)] at H
         simp only [Option.some.injEq, Prod.mk.injEq] at H
         obtain ⟨rfl, rfl, rfl⟩ := H
         have hnb44 := NB148_149.out
         have hnc44 := NB149_148.out
         obtain ⟨hcz45_0, hcz45_1, hcz45_2, hcz45_3, hfz45_0, hfz45_1, hfz45_2, hfz45_3⟩ := cl4 BK148.out
         obtain ⟨hcz46_0, hcz46_1, hcz46_2, hfz46_0, hfz46_1, hfz46_2⟩ := cl3 BK149.out
         go_wp2
         repeat (go_quiet (fail); try go_wp2)
         refine bodyPost_ret (results_cell_row rfl _ _ gb149 47 #[.bool false, .bool false, .int .u64 (IntKind.u64.wrap (x5_8 + 1))] (0, 0) _ rfl (bQ3 BK149.out) Tryd.underlying47 rfl (by kernel_rfl)) rfl ?_
         exact ⟨eR3, bR3 HB.out⟩
       ·
        rw [if_neg c39] at H
        have c39b0 : ((Go.bits .and .u64 x5_8 1) == 1) = false := beq_eq_false_iff_ne.mpr c39
        have c39b1 : ((Go.bits .and .u64 x5_8 1) != 1) = true := bne_iff_ne.mpr c39
        by_cases c47 : a0_1 = true
        ·
         subst c47
         rw [if_pos rfl] at H
         simp only [Option.some.injEq, Prod.mk.injEq] at H
         obtain ⟨rfl, rfl, rfl⟩ := H
         have hnb48 := NB148_149.out
         have hnc48 := NB149_148.out
         obtain ⟨hcz49_0, hcz49_1, hcz49_2, hcz49_3, hfz49_0, hfz49_1, hfz49_2, hfz49_3⟩ := cl4 BK148.out
         obtain ⟨hcz50_0, hcz50_1, hcz50_2, hfz50_0, hfz50_1, hfz50_2⟩ := cl3 BK149.out
         go_wp2
         repeat (go_quiet (fail); try go_wp2)
         refine bodyPost_ret (results_cell_row rfl _ _ gb149 47 #[.bool (decide (x5_8 > 0)), .bool false, .int .u64 x5_8] (0, 0) _ rfl (bQ3 BK149.out) Tryd.underlying47 rfl (by kernel_rfl)) rfl ?_
         exact ⟨eR3, bR3 HB.out⟩
        ·
         replace c47 := Bool.eq_false_iff.mpr c47
         subst c47
         rw [if_neg (show ¬ (false = true) by decide)] at H
         simp only [Option.some.injEq, Prod.mk.injEq] at H
         obtain ⟨rfl, rfl, rfl⟩ := H
         have hnb51 := NB148_149.out
         have hnc51 := NB149_148.out
         obtain ⟨hcz52_0, hcz52_1, hcz52_2, hcz52_3, hfz52_0, hfz52_1, hfz52_2, hfz52_3⟩ := cl4 BK148.out
         obtain ⟨hcz53_0, hcz53_1, hcz53_2, hfz53_0, hfz53_1, hfz53_2⟩ := cl3 BK149.out
         go_wp2
         repeat (go_quiet (fail); try go_wp2)
         refine bodyPost_ret (results_cell_row rfl _ _ gb149 47 #[.bool false, .bool false, .int .u64 x5_8] (0, 0) _ rfl (bQ3 BK149.out) Tryd.underlying47 rfl (by kernel_rfl)) rfl ?_
         exact ⟨eR3, bR3 HB.out⟩
      ·
       rw [if_neg c38] at H
       have c38b0 : (x6_8 == 9223372036854775808) = false := beq_eq_false_iff_ne.mpr c38
       have c38b1 : (x6_8 != 9223372036854775808) = true := bne_iff_ne.mpr c38
       by_cases c54 : a0_1 = true
       ·
        subst c54
        rw [if_pos rfl] at H
        simp only [Option.some.injEq, Prod.mk.injEq] at H
        obtain ⟨rfl, rfl, rfl⟩ := H
        have hnb55 := NB148_149.out
        have hnc55 := NB149_148.out
        obtain ⟨hcz56_0, hcz56_1, hcz56_2, hcz56_3, hfz56_0, hfz56_1, hfz56_2, hfz56_3⟩ := cl4 BK148.out
        obtain ⟨hcz57_0, hcz57_1, hcz57_2, hfz57_0, hfz57_1, hfz57_2⟩ := cl3 BK149.out
        go_wp2
        repeat (go_quiet (fail); try go_wp2)
        refine bodyPost_ret (results_cell_row rfl _ _ gb149 47 #[.bool (decide (x5_8 > 0)), .bool false, .int .u64 x5_8] (0, 0) _ rfl (bQ3 BK149.out) Tryd.underlying47 rfl (by kernel_rfl)) rfl ?_
        exact ⟨eR3, bR3 HB.out⟩
       ·
        replace c54 := Bool.eq_false_iff.mpr c54
        subst c54
        rw [if_neg (show ¬ (false = true) by decide)] at H
        simp only [Option.some.injEq, Prod.mk.injEq] at H
        obtain ⟨rfl, rfl, rfl⟩ := H
        have hnb58 := NB148_149.out
        have hnc58 := NB149_148.out
        obtain ⟨hcz59_0, hcz59_1, hcz59_2, hcz59_3, hfz59_0, hfz59_1, hfz59_2, hfz59_3⟩ := cl4 BK148.out
        obtain ⟨hcz60_0, hcz60_1, hcz60_2, hfz60_0, hfz60_1, hfz60_2⟩ := cl3 BK149.out
        go_wp2
        repeat (go_quiet (fail); try go_wp2)
        refine bodyPost_ret (results_cell_row rfl _ _ gb149 47 #[.bool false, .bool false, .int .u64 x5_8] (0, 0) _ rfl (bQ3 BK149.out) Tryd.underlying47 rfl (by kernel_rfl)) rfl ?_
        exact ⟨eR3, bR3 HB.out⟩
    ·
     rw [if_neg c29] at H
     have c29b0 : (a1 == 0) = false := beq_eq_false_iff_ne.mpr c29
     have c29b1 : (a1 != 0) = true := bne_iff_ne.mpr c29
     by_cases c61 : a1 = 2
     ·
      rw [if_pos c61] at H
      have c61b0 : (a1 == 2) = true := beq_iff_eq.mpr c61
      have c61b1 : (a1 != 2) = false := bne_eq_false_iff_eq.mpr c61
      clear c61
      by_cases c62 : a0_1 = true
      ·
       subst c62
       rw [if_pos rfl] at H
       simp only [Option.some.injEq, Prod.mk.injEq] at H
       obtain ⟨rfl, rfl, rfl⟩ := H
       have hnb63 := NB148_149.out
       have hnc63 := NB149_148.out
       obtain ⟨hcz64_0, hcz64_1, hcz64_2, hcz64_3, hfz64_0, hfz64_1, hfz64_2, hfz64_3⟩ := cl4 BK148.out
       obtain ⟨hcz65_0, hcz65_1, hcz65_2, hfz65_0, hfz65_1, hfz65_2⟩ := cl3 BK149.out
       go_wp2
       repeat (go_quiet (fail); try go_wp2)
       refine bodyPost_ret (results_cell_row rfl _ _ gb149 47 #[.bool (decide (x5_8 > 0)), .bool false, .int .u64 x5_8] (0, 0) _ rfl (bQ3 BK149.out) Tryd.underlying47 rfl (by kernel_rfl)) rfl ?_
       exact ⟨eR3, bR3 HB.out⟩
      ·
       replace c62 := Bool.eq_false_iff.mpr c62
       subst c62
       rw [if_neg (show ¬ (false = true) by decide)] at H
       by_cases c66 : x6_8 > 0
       ·
        rw [if_pos c66] at H
        have c66b0 : decide (0 < x6_8) = true := decide_eq_true c66
        clear c66
        simp only [Option.some.injEq, Prod.mk.injEq] at H
        obtain ⟨rfl, rfl, rfl⟩ := H
        have hnb67 := NB148_149.out
        have hnc67 := NB149_148.out
        obtain ⟨hcz68_0, hcz68_1, hcz68_2, hcz68_3, hfz68_0, hfz68_1, hfz68_2, hfz68_3⟩ := cl4 BK148.out
        obtain ⟨hcz69_0, hcz69_1, hcz69_2, hfz69_0, hfz69_1, hfz69_2⟩ := cl3 BK149.out
        go_wp2
        repeat (go_quiet (fail); try go_wp2)
        refine bodyPost_ret (results_cell_row rfl _ _ gb149 47 #[.bool false, .bool false, .int .u64 (IntKind.u64.wrap (x5_8 + 1))] (0, 0) _ rfl (bQ3 BK149.out) Tryd.underlying47 rfl (by kernel_rfl)) rfl ?_
        exact ⟨eR3, bR3 HB.out⟩
       ·
        rw [if_neg c66] at H
        have c66b0 : decide (0 < x6_8) = false := decide_eq_false c66
        clear c66
        simp only [Option.some.injEq, Prod.mk.injEq] at H
        obtain ⟨rfl, rfl, rfl⟩ := H
        have hnb70 := NB148_149.out
        have hnc70 := NB149_148.out
        obtain ⟨hcz71_0, hcz71_1, hcz71_2, hcz71_3, hfz71_0, hfz71_1, hfz71_2, hfz71_3⟩ := cl4 BK148.out
        obtain ⟨hcz72_0, hcz72_1, hcz72_2, hfz72_0, hfz72_1, hfz72_2⟩ := cl3 BK149.out
        go_wp2
        repeat (go_quiet (fail); try go_wp2)
        refine bodyPost_ret (results_cell_row rfl _ _ gb149 47 #[.bool false, .bool false, .int .u64 x5_8] (0, 0) _ rfl (bQ3 BK149.out) Tryd.underlying47 rfl (by kernel_rfl)) rfl ?_
        exact ⟨eR3, bR3 HB.out⟩
     ·
      rw [if_neg c61] at H
      have c61b0 : (a1 == 2) = false := beq_eq_false_iff_ne.mpr c61
      have c61b1 : (a1 != 2) = true := bne_iff_ne.mpr c61
      by_cases c73 : a1 = 1
      ·
       rw [if_pos c73] at H
       have c73b0 : (a1 == 1) = true := beq_iff_eq.mpr c73
       have c73b1 : (a1 != 1) = false := bne_eq_false_iff_eq.mpr c73
       clear c73
       by_cases c74 : a0_1 = true
       ·
        subst c74
        rw [if_pos rfl] at H
        by_cases c75 : x6_8 > 0
        ·
         rw [if_pos c75] at H
         have c75b0 : decide (0 < x6_8) = true := decide_eq_true c75
         clear c75
         simp only [Option.some.injEq, Prod.mk.injEq] at H
         obtain ⟨rfl, rfl, rfl⟩ := H
         have hnb76 := NB148_149.out
         have hnc76 := NB149_148.out
         obtain ⟨hcz77_0, hcz77_1, hcz77_2, hcz77_3, hfz77_0, hfz77_1, hfz77_2, hfz77_3⟩ := cl4 BK148.out
         obtain ⟨hcz78_0, hcz78_1, hcz78_2, hfz78_0, hfz78_1, hfz78_2⟩ := cl3 BK149.out
         go_wp2
         repeat (go_quiet (fail); try go_wp2)
         refine bodyPost_ret (results_cell_row rfl _ _ gb149 47 #[.bool (decide ((IntKind.u64.wrap (x5_8 + 1)) > 0)), .bool false, .int .u64 (IntKind.u64.wrap (x5_8 + 1))] (0, 0) _ rfl (bQ3 BK149.out) Tryd.underlying47 rfl (by kernel_rfl)) rfl ?_
         exact ⟨eR3, bR3 HB.out⟩
        ·
         rw [if_neg c75] at H
         have c75b0 : decide (0 < x6_8) = false := decide_eq_false c75
         clear c75
         simp only [Option.some.injEq, Prod.mk.injEq] at H
         obtain ⟨rfl, rfl, rfl⟩ := H
         have hnb79 := NB148_149.out
         have hnc79 := NB149_148.out
         obtain ⟨hcz80_0, hcz80_1, hcz80_2, hcz80_3, hfz80_0, hfz80_1, hfz80_2, hfz80_3⟩ := cl4 BK148.out
         obtain ⟨hcz81_0, hcz81_1, hcz81_2, hfz81_0, hfz81_1, hfz81_2⟩ := cl3 BK149.out
         go_wp2
         repeat (go_quiet (fail); try go_wp2)
         refine bodyPost_ret (results_cell_row rfl _ _ gb149 47 #[.bool (decide (x5_8 > 0)), .bool false, .int .u64 x5_8] (0, 0) _ rfl (bQ3 BK149.out) Tryd.underlying47 rfl (by kernel_rfl)) rfl ?_
         exact ⟨eR3, bR3 HB.out⟩
       ·
        replace c74 := Bool.eq_false_iff.mpr c74
        subst c74
        rw [if_neg (show ¬ (false = true) by decide)] at H
        simp only [Option.some.injEq, Prod.mk.injEq] at H
        obtain ⟨rfl, rfl, rfl⟩ := H
        have hnb82 := NB148_149.out
        have hnc82 := NB149_148.out
        obtain ⟨hcz83_0, hcz83_1, hcz83_2, hcz83_3, hfz83_0, hfz83_1, hfz83_2, hfz83_3⟩ := cl4 BK148.out
        obtain ⟨hcz84_0, hcz84_1, hcz84_2, hfz84_0, hfz84_1, hfz84_2⟩ := cl3 BK149.out
        go_wp2
        repeat (go_quiet (fail); try go_wp2)
        refine bodyPost_ret (results_cell_row rfl _ _ gb149 47 #[.bool false, .bool false, .int .u64 x5_8] (0, 0) _ rfl (bQ3 BK149.out) Tryd.underlying47 rfl (by kernel_rfl)) rfl ?_
        exact ⟨eR3, bR3 HB.out⟩
      ·
       rw [if_neg c73] at H
       have c73b0 : (a1 == 1) = false := beq_eq_false_iff_ne.mpr c73
       have c73b1 : (a1 != 1) = true := bne_iff_ne.mpr c73
       by_cases c85 : a0_1 = true
       ·
        subst c85
        rw [if_pos rfl] at H
        simp only [Option.some.injEq, Prod.mk.injEq] at H
        obtain ⟨rfl, rfl, rfl⟩ := H
        have hnb86 := NB148_149.out
        have hnc86 := NB149_148.out
        obtain ⟨hcz87_0, hcz87_1, hcz87_2, hcz87_3, hfz87_0, hfz87_1, hfz87_2, hfz87_3⟩ := cl4 BK148.out
        obtain ⟨hcz88_0, hcz88_1, hcz88_2, hfz88_0, hfz88_1, hfz88_2⟩ := cl3 BK149.out
        go_wp2
        repeat (go_quiet (fail); try go_wp2)
        refine bodyPost_ret (results_cell_row rfl _ _ gb149 47 #[.bool (decide (x5_8 > 0)), .bool false, .int .u64 x5_8] (0, 0) _ rfl (bQ3 BK149.out) Tryd.underlying47 rfl (by kernel_rfl)) rfl ?_
        exact ⟨eR3, bR3 HB.out⟩
       ·
        replace c85 := Bool.eq_false_iff.mpr c85
        subst c85
        rw [if_neg (show ¬ (false = true) by decide)] at H
        simp only [Option.some.injEq, Prod.mk.injEq] at H
        obtain ⟨rfl, rfl, rfl⟩ := H
        have hnb89 := NB148_149.out
        have hnc89 := NB149_148.out
        obtain ⟨hcz90_0, hcz90_1, hcz90_2, hcz90_3, hfz90_0, hfz90_1, hfz90_2, hfz90_3⟩ := cl4 BK148.out
        obtain ⟨hcz91_0, hcz91_1, hcz91_2, hfz91_0, hfz91_1, hfz91_2⟩ := cl3 BK149.out
        go_wp2
        repeat (go_quiet (fail); try go_wp2)
        refine bodyPost_ret (results_cell_row rfl _ _ gb149 47 #[.bool false, .bool false, .int .u64 x5_8] (0, 0) _ rfl (bQ3 BK149.out) Tryd.underlying47 rfl (by kernel_rfl)) rfl ?_
        exact ⟨eR3, bR3 HB.out⟩
def ints_told.j0 : Nat → Int → Bool → Int → Bool → Int → Int → Option (Bool × Bool × Int × Option Int)
 | 0, _, _, _, _, _, _ => none
 | k + 1, x2, x21, x157000, x157001, x157002, x157003 => if x21 = true then (some (false, false, 0, some 24)) else (if x157000 = 2 then (some (false, false, 0, some 9)) else (if x157000 = 0 then (some (false, false, 0, none)) else ((ints_of.f k x157000 x157001 x157002 x157003 x2).bind fun bt158 => (some (bt158.1, bt158.2.1, bt158.2.2, none)))))
def ints_told.f (k : Nat) (a0 : Int) (a1 : Int) (a2 : Int) : Option (Bool × Bool × Int × Option Int) := (codec_Decode.f k a0 a1).bind fun bt151 => (if bt151.2.2.2.2.isNone = true then (if a2 < 0 then (ints_told.j0 k a2 true bt151.1 bt151.2.1 bt151.2.2.1 bt151.2.2.2.1) else (ints_told.j0 k a2 (decide (a2 > 3)) bt151.1 bt151.2.1 bt151.2.2.1 bt151.2.2.2.1)) else (some (false, false, 0, some (bt151.2.2.2.2.getD 0))))
set_option maxHeartbeats 8000000 in
set_option maxRecDepth 100000 in
theorem ints_told.calls (k : Nat) (a0 : Int) (a1 : Int) (a2 : Int) (r1 : Bool) (r2 : Bool) (r3 : Int) (r4 : Option Int) (w : World) (h : ints_told.f k a0 a1 a2 = some (r1, r2, r3, r4)) :
  Calls Tryd.prog 17 #[.int .i64 a0, .int .u64 a1, .int .i64 a2] w fun e w' => e = .returned (.tuple #[.agg #[.bool r1, .bool r2, .int .u64 r3], errW r4]) ∧ Below w.heap.size w w' := by
 have hu47 := Tryd.underlying47
 have hu52 := Tryd.underlying52
 have hu25 := Tryd.underlying25
 have hu40 := Tryd.underlying40
 have HB := Aside0.mk (Below.refl w.heap.size w)
 have H : ((codec_Decode.f k a0 a1).bind fun bt151 => (if bt151.2.2.2.2.isNone = true then (if a2 < 0 then (ints_told.j0 k a2 true bt151.1 bt151.2.1 bt151.2.2.1 bt151.2.2.2.1) else (ints_told.j0 k a2 (decide (a2 > 3)) bt151.1 bt151.2.1 bt151.2.2.1 bt151.2.2.2.1)) else (some (false, false, 0, some (bt151.2.2.2.2.getD 0))))) = some (r1, r2, r3, r4) := h
 clear h
 replace H := Option.bind_eq_some_iff.mp H
 obtain ⟨⟨t151, t152, t153, t154, t155⟩, A40, H⟩ := H
 try dsimp -simprocs only at H
 have A4 := Aside0.mk A40
 clear A40
 rcases t155 with _ | q157
 ·
  rw [if_pos (show (none : Option Int).isNone = true by rfl)] at H
  try simp only [Option.getD_some] at H
  try simp only [errW_none, errW_some]
  have HC5 := Aside0.mk H
  clear H
  go_enter Tryd.func17, Tryd.ntmps17
  go_upto_region 4 with (first | ((with_reducible refine gD (N := 6) rfl ?_); refine bE3 6 #[.bool false, .bool false, .int .u64 0] 47 ?hr ?_; (case hr => first | (go_simp; done) | (go_simp; rfl)); intro gb150 hg w6 hbox hb; have BK150 := Aside0.mk (hbox); have GW150 := Aside0.mk ((bZ3 hg HB.out)); have GE150 := Aside0.mk ((bZ3 hg HB.out)); replace HB := Aside0.mk (bS3 HB.out hb); clear hb hbox hg) | ((with_reducible refine gX_ 19 13 rfl rfl ?_); refine goesY_ (some 13) Tryd.func19 #[.int .i64 a0, .int .u64 a1] ?_; (with_reducible refine (codec_Decode.calls k a0 a1 t151 t152 t153 t154 none _ A4.out).mono ?_); rintro e w7 ⟨rfl, hb⟩; refine ⟨_, rfl, ?_⟩; replace BK150 := Aside0.mk (bB3 BK150.out hb); replace HB := Aside0.mk (bS3 HB.out hb); (try clear hb); (try clear hk); (try simp only [errW_none, errW_some])) | ((with_reducible refine gD (N := 8) rfl ?_); refine bE3 8 #[.int .i64 0, .bool false, .int .i64 0, .int .u64 0] 52 ?hr ?_; (case hr => first | (go_simp; done) | (go_simp; rfl)); intro gb156 hg w8 hbox hb; have BK156 := Aside0.mk (hbox); have GW156 := Aside0.mk ((bZ3 hg HB.out)); have GE156 := Aside0.mk ((bZ3 hg HB.out)); replace HB := Aside0.mk (bS3 HB.out hb); have NB150_156 := Aside0.mk ((bL3 hg BK150.out)); have NB156_150 := Aside0.mk ((bG3 hg BK150.out)); replace BK150 := Aside0.mk (bB3 BK150.out hb); clear hb hbox hg; have hnb9 := NB156_150.out; have hnc9 := NB150_156.out; obtain ⟨hcz10_0, hcz10_1, hcz10_2, hcz10_3, hfz10_0, hfz10_1, hfz10_2, hfz10_3⟩ := cl4 BK156.out))
  (try simp only [Act.put, lS_, lZ_, lC_])
  go_cut [21] (fun v21 wc => ∃ (kq : Nat) (x21_4 : Bool), v21 = .bool x21_4 ∧ Aside0 (ints_told.j0 kq a2 x21_4 t151 t152 t153 t154 = some (r1, r2, r3, r4)) ∧ Aside0 (kq ≤ k) ∧ Aside0 (wc.heap[gb150]? = some (.cells #[.bool false, .bool false, .int .u64 0] 47 (0, 0))) ∧ Aside0 (wc.heap[gb156]? = some (.cells #[.int .i64 t151, .bool t152, .int .i64 t153, .int .u64 t154] 52 (0, 0))) ∧ Aside0 (Below w.heap.size w wc))
  case first =>
   have H := HC5.out
   clear HC5
   by_cases c11 : a2 < 0
   ·
    rw [if_pos c11] at H
    have c11b0 : decide (a2 < 0) = true := decide_eq_true c11
    clear c11
    (first | rw [c11b0] | (simp only [i64_w, i32_w]; rw [c11b0]) | skip)
    have H' := Aside0.mk H
    clear H
    go_wp2
    go_meet
    case rel => exact ⟨_, (true), (by first | rfl | (simp; done) | (simp [*]; done)), H', ⟨by first | omega | exact Nat.le_refl _⟩, ⟨bQ3 BK150.out⟩, ⟨bQ3 BK156.out⟩, ⟨bR3 HB.out⟩⟩
   ·
    rw [if_neg c11] at H
    have c11b0 : decide (a2 < 0) = false := decide_eq_false c11
    clear c11
    (first | rw [c11b0] | (simp only [i64_w, i32_w]; rw [c11b0]) | skip)
    have H' := Aside0.mk H
    clear H
    go_wp2
    go_meet
    case rel => exact ⟨_, (decide (a2 > 3)), (by first | rfl | (simp; done) | (simp [*]; done)), H', ⟨by first | omega | exact Nat.le_refl _⟩, ⟨bQ3 BK150.out⟩, ⟨bQ3 BK156.out⟩, ⟨bR3 HB.out⟩⟩
  case rest =>
   clear HC5
   try clear c1
   try clear q1
   try clear p2
   try clear c9
   try clear c11
   try clear c11b0
   try clear hcz10_0 hcz10_1 hcz10_2 hcz10_3 hfz10_0 hfz10_1 hfz10_2 hfz10_3
   try clear q157
   obtain ⟨kq, x21_4, rfl, HA, HJ4, BK150, BK156, HB⟩ := hcut
   cases kq with
   | zero => exact absurd HA.out (by simp [ints_told.j0])
   | succ kj4 =>
    have H := HA.out
    clear HA
    simp only [ints_told.j0] at H
    by_cases c12 : x21_4 = true
    ·
     subst c12
     rw [if_pos rfl] at H
     simp only [Option.some.injEq, Prod.mk.injEq] at H
     obtain ⟨rfl, rfl, rfl, rfl⟩ := H
     have hnb13 := NB150_156.out
     have hnc13 := NB156_150.out
     obtain ⟨hcz14_0, hcz14_1, hcz14_2, hfz14_0, hfz14_1, hfz14_2⟩ := cl3 BK150.out
     go_wp2
     refine bodyPost_ret (results_ct rfl _ _ gb150 47 #[.bool false, .bool false, .int .u64 0] (0, 0) _ rfl (bQ3 BK150.out) Tryd.underlying47 rfl (by kernel_rfl)) rfl ?_
     exact ⟨eR3, bR3 HB.out⟩
    ·
     replace c12 := Bool.eq_false_iff.mpr c12
     subst c12
     rw [if_neg (show ¬ (false = true) by decide)] at H
     by_cases c15 : t151 = 2
     ·
      rw [if_pos c15] at H
      have c15b0 : (t151 == 2) = true := beq_iff_eq.mpr c15
      have c15b1 : (t151 != 2) = false := bne_eq_false_iff_eq.mpr c15
      clear c15
      simp only [Option.some.injEq, Prod.mk.injEq] at H
      obtain ⟨rfl, rfl, rfl, rfl⟩ := H
      have hnb16 := NB156_150.out
      have hnc16 := NB150_156.out
      obtain ⟨hcz17_0, hcz17_1, hcz17_2, hcz17_3, hfz17_0, hfz17_1, hfz17_2, hfz17_3⟩ := cl4 BK156.out
      obtain ⟨hcz18_0, hcz18_1, hcz18_2, hfz18_0, hfz18_1, hfz18_2⟩ := cl3 BK150.out
      go_wp2
      refine bodyPost_ret (results_ct rfl _ _ gb150 47 #[.bool false, .bool false, .int .u64 0] (0, 0) _ rfl (bQ3 BK150.out) Tryd.underlying47 rfl (by kernel_rfl)) rfl ?_
      exact ⟨eR3, bR3 HB.out⟩
     ·
      rw [if_neg c15] at H
      have c15b0 : (t151 == 2) = false := beq_eq_false_iff_ne.mpr c15
      have c15b1 : (t151 != 2) = true := bne_iff_ne.mpr c15
      by_cases c19 : t151 = 0
      ·
       rw [if_pos c19] at H
       have c19b0 : (t151 == 0) = true := beq_iff_eq.mpr c19
       have c19b1 : (t151 != 0) = false := bne_eq_false_iff_eq.mpr c19
       clear c19
       simp only [Option.some.injEq, Prod.mk.injEq] at H
       obtain ⟨rfl, rfl, rfl, rfl⟩ := H
       have hnb20 := NB156_150.out
       have hnc20 := NB150_156.out
       obtain ⟨hcz21_0, hcz21_1, hcz21_2, hcz21_3, hfz21_0, hfz21_1, hfz21_2, hfz21_3⟩ := cl4 BK156.out
       obtain ⟨hcz22_0, hcz22_1, hcz22_2, hfz22_0, hfz22_1, hfz22_2⟩ := cl3 BK150.out
       go_wp2
       refine bodyPost_ret (results_ct rfl _ _ gb150 47 #[.bool false, .bool false, .int .u64 0] (0, 0) _ rfl (bQ3 BK150.out) Tryd.underlying47 rfl (by kernel_rfl)) rfl ?_
       exact ⟨eR3, bR3 HB.out⟩
      ·
       rw [if_neg c19] at H
       have c19b0 : (t151 == 0) = false := beq_eq_false_iff_ne.mpr c19
       have c19b1 : (t151 != 0) = true := bne_iff_ne.mpr c19
       replace H := Option.bind_eq_some_iff.mp H
       obtain ⟨⟨t158, t159, t160⟩, A230, H⟩ := H
       try dsimp -simprocs only at H
       have A23 := Aside0.mk A230
       clear A230
       simp only [Option.some.injEq, Prod.mk.injEq] at H
       obtain ⟨rfl, rfl, rfl, rfl⟩ := H
       have hnb24 := NB156_150.out
       have hnc24 := NB150_156.out
       obtain ⟨hcz25_0, hcz25_1, hcz25_2, hcz25_3, hfz25_0, hfz25_1, hfz25_2, hfz25_3⟩ := cl4 BK156.out
       go_wp2_with (first | ((with_reducible refine gX_ 32 43 rfl rfl ?_); refine goesY_ (some 43) Tryd.func32 #[.agg #[.int .i64 t151, .bool t152, .int .i64 t153, .int .u64 t154], .int .i64 a2] ?_; (with_reducible refine (ints_of.calls kj4 t151 t152 t153 t154 a2 t158 t159 t160 _ A23.out).mono ?_); rintro e w26 ⟨rfl, hb⟩; refine ⟨_, rfl, ?_⟩; replace BK150 := Aside0.mk (bB3 BK150.out hb); replace BK156 := Aside0.mk (bB3 BK156.out hb); replace HB := Aside0.mk (bS3 HB.out hb); (try clear hb); (try clear hk); obtain ⟨hcz27_0, hcz27_1, hcz27_2, hfz27_0, hfz27_1, hfz27_2⟩ := cl3 BK150.out))
       refine bodyPost_ret (results_ct rfl _ _ gb150 47 #[.bool t158, .bool t159, .int .u64 t160] (0, 0) _ rfl (bQ3 BK150.out) Tryd.underlying47 rfl (by kernel_rfl)) rfl ?_
       exact ⟨eR3, bR3 HB.out⟩
 ·
  rw [if_neg (show ¬ (some q157).isNone = true by simp)] at H
  try simp only [Option.getD_some] at H
  try simp only [errW_none, errW_some]
  simp only [Option.some.injEq, Prod.mk.injEq] at H
  obtain ⟨rfl, rfl, rfl, rfl⟩ := H
  go_enter Tryd.func17, Tryd.ntmps17
  go_wp2_with (first | ((with_reducible refine gD (N := 6) rfl ?_); refine bE3 6 #[.bool false, .bool false, .int .u64 0] 47 ?hr ?_; (case hr => first | (go_simp; done) | (go_simp; rfl)); intro gb150 hg w28 hbox hb; have BK150 := Aside0.mk (hbox); have GW150 := Aside0.mk ((bZ3 hg HB.out)); have GE150 := Aside0.mk ((bZ3 hg HB.out)); replace HB := Aside0.mk (bS3 HB.out hb); clear hb hbox hg) | ((with_reducible refine gX_ 19 13 rfl rfl ?_); refine goesY_ (some 13) Tryd.func19 #[.int .i64 a0, .int .u64 a1] ?_; (with_reducible refine (codec_Decode.calls k a0 a1 t151 t152 t153 t154 (some q157) _ A4.out).mono ?_); rintro e w29 ⟨rfl, hb⟩; refine ⟨_, rfl, ?_⟩; replace BK150 := Aside0.mk (bB3 BK150.out hb); replace HB := Aside0.mk (bS3 HB.out hb); (try clear hb); (try clear hk); (try simp only [errW_none, errW_some])) | ((with_reducible refine gD (N := 8) rfl ?_); refine bE3 8 #[.int .i64 0, .bool false, .int .i64 0, .int .u64 0] 52 ?hr ?_; (case hr => first | (go_simp; done) | (go_simp; rfl)); intro gb156 hg w30 hbox hb; have BK156 := Aside0.mk (hbox); have GW156 := Aside0.mk ((bZ3 hg HB.out)); have GE156 := Aside0.mk ((bZ3 hg HB.out)); replace HB := Aside0.mk (bS3 HB.out hb); have NB150_156 := Aside0.mk ((bL3 hg BK150.out)); have NB156_150 := Aside0.mk ((bG3 hg BK150.out)); replace BK150 := Aside0.mk (bB3 BK150.out hb); clear hb hbox hg; have hnb31 := NB156_150.out; have hnc31 := NB150_156.out; obtain ⟨hcz32_0, hcz32_1, hcz32_2, hcz32_3, hfz32_0, hfz32_1, hfz32_2, hfz32_3⟩ := cl4 BK156.out; obtain ⟨hcz33_0, hcz33_1, hcz33_2, hfz33_0, hfz33_1, hfz33_2⟩ := cl3 BK150.out))
  refine bodyPost_ret (results_ct rfl _ _ gb150 47 #[.bool false, .bool false, .int .u64 0] (0, 0) _ rfl (bQ3 BK150.out) Tryd.underlying47 rfl (by kernel_rfl)) rfl ?_
  exact ⟨eR3, bR3 HB.out⟩
def ints_rounded.f (k : Nat) (a0 : Int) (a1 : Bool) (a2 : Int) (a3 : Int) : Option (Int × Option Int) := (round_Make.f k a1 a2 a3 0 false).bind fun bt260 => (if bt260.2.2.2.2.2.2.isNone = true then ((round_Round.f k a0 bt260.1 bt260.2.1 bt260.2.2.1 bt260.2.2.2.1 bt260.2.2.2.2.1 bt260.2.2.2.2.2.1).bind fun bt269 => (some (bt269.1, bt269.2))) else (some (0, some (bt260.2.2.2.2.2.2.getD 0))))
set_option maxHeartbeats 8000000 in
set_option maxRecDepth 100000 in
theorem ints_rounded.calls (k : Nat) (a0 : Int) (a1 : Bool) (a2 : Int) (a3 : Int) (r1 : Int) (r2 : Option Int) (w : World) (h : ints_rounded.f k a0 a1 a2 a3 = some (r1, r2)) :
  Calls Tryd.prog 18 #[.int .i64 a0, .bool a1, .int .u64 a2, .int .u64 a3] w fun e w' => e = .returned (.tuple #[.int .u64 r1, errW r2]) ∧ Below w.heap.size w w' := by
 have hu61 := Tryd.underlying61
 have hu25 := Tryd.underlying25
 have hu40 := Tryd.underlying40
 have HB := Aside0.mk (Below.refl w.heap.size w)
 have H : ((round_Make.f k a1 a2 a3 0 false).bind fun bt260 => (if bt260.2.2.2.2.2.2.isNone = true then ((round_Round.f k a0 bt260.1 bt260.2.1 bt260.2.2.1 bt260.2.2.2.1 bt260.2.2.2.2.1 bt260.2.2.2.2.2.1).bind fun bt269 => (some (bt269.1, bt269.2))) else (some (0, some (bt260.2.2.2.2.2.2.getD 0))))) = some (r1, r2) := h
 clear h
 replace H := Option.bind_eq_some_iff.mp H
 obtain ⟨⟨t260, t261, t262, t263, t264, t265, t266⟩, A50, H⟩ := H
 try dsimp -simprocs only at H
 have A5 := Aside0.mk A50
 clear A50
 rcases t266 with _ | q268
 ·
  rw [if_pos (show (none : Option Int).isNone = true by rfl)] at H
  try simp only [Option.getD_some] at H
  try simp only [errW_none, errW_some]
  replace H := Option.bind_eq_some_iff.mp H
  obtain ⟨⟨t269, t270⟩, A60, H⟩ := H
  try dsimp -simprocs only at H
  have A6 := Aside0.mk A60
  clear A60
  simp only [Option.some.injEq, Prod.mk.injEq] at H
  obtain ⟨rfl, rfl⟩ := H
  go_enter Tryd.func18, Tryd.ntmps18
  go_wp2_with (first | ((with_reducible refine gX_ 33 16 rfl rfl ?_); refine goesY_ (some 16) Tryd.func33 #[.bool a1, .int .u64 a2, .int .u64 a3, .int .i64 0, .bool false] ?_; (with_reducible refine (round_Make.calls k a1 a2 a3 0 false t260 t261 t262 t263 t264 t265 none _ A5.out).mono ?_); rintro e w7 ⟨rfl, hb⟩; refine ⟨_, rfl, ?_⟩; replace HB := Aside0.mk (bS3 HB.out hb); (try clear hb); (try clear hk); (try simp only [errW_none, errW_some])) | ((with_reducible refine gD (N := 10) rfl ?_); refine bE3 10 #[.int .i64 0, .bool false, .int .i64 0, .int .u64 0, .int .u64 0, .bool false] 61 ?hr ?_; (case hr => first | (go_simp; done) | (go_simp; rfl)); intro gb267 hg w8 hbox hb; have BK267 := Aside0.mk (hbox); have GW267 := Aside0.mk ((bZ3 hg HB.out)); have GE267 := Aside0.mk ((bZ3 hg HB.out)); replace HB := Aside0.mk (bS3 HB.out hb); clear hb hbox hg; obtain ⟨hcz9_0, hcz9_1, hcz9_2, hcz9_3, hcz9_4, hcz9_5, hfz9_0, hfz9_1, hfz9_2, hfz9_3, hfz9_4, hfz9_5⟩ := cl6 BK267.out) | ((with_reducible refine gX_ 34 24 rfl rfl ?_); refine goesY_ (some 24) Tryd.func34 #[.int .i64 a0, .agg #[.int .i64 t260, .bool t261, .int .i64 t262, .int .u64 t263, .int .u64 t264, .bool t265]] ?_; (with_reducible refine (round_Round.calls k a0 t260 t261 t262 t263 t264 t265 t269 t270 _ A6.out).mono ?_); rintro e w10 ⟨rfl, hb⟩; refine ⟨_, rfl, ?_⟩; replace BK267 := Aside0.mk (bB (g := gb267) (o := .cells #[.int .i64 t260, .bool t261, .int .i64 t262, .int .u64 t263, .int .u64 t264, .bool t265] 61 (0, 0)) (bQ3 BK267.out) hb); replace HB := Aside0.mk (bS3 HB.out hb); (try clear hb); (try clear hk); (try simp only [errW_none, errW_some])))
  go_ret2
  exact ⟨eR3, bR3 HB.out⟩
 ·
  rw [if_neg (show ¬ (some q268).isNone = true by simp)] at H
  try simp only [Option.getD_some] at H
  try simp only [errW_none, errW_some]
  simp only [Option.some.injEq, Prod.mk.injEq] at H
  obtain ⟨rfl, rfl⟩ := H
  go_enter Tryd.func18, Tryd.ntmps18
  go_wp2_with (first | ((with_reducible refine gX_ 33 16 rfl rfl ?_); refine goesY_ (some 16) Tryd.func33 #[.bool a1, .int .u64 a2, .int .u64 a3, .int .i64 0, .bool false] ?_; (with_reducible refine (round_Make.calls k a1 a2 a3 0 false t260 t261 t262 t263 t264 t265 (some q268) _ A5.out).mono ?_); rintro e w11 ⟨rfl, hb⟩; refine ⟨_, rfl, ?_⟩; replace HB := Aside0.mk (bS3 HB.out hb); (try clear hb); (try clear hk); (try simp only [errW_none, errW_some])) | ((with_reducible refine gD (N := 10) rfl ?_); refine bE3 10 #[.int .i64 0, .bool false, .int .i64 0, .int .u64 0, .int .u64 0, .bool false] 61 ?hr ?_; (case hr => first | (go_simp; done) | (go_simp; rfl)); intro gb267 hg w12 hbox hb; have BK267 := Aside0.mk (hbox); have GW267 := Aside0.mk ((bZ3 hg HB.out)); have GE267 := Aside0.mk ((bZ3 hg HB.out)); replace HB := Aside0.mk (bS3 HB.out hb); clear hb hbox hg; obtain ⟨hcz13_0, hcz13_1, hcz13_2, hcz13_3, hcz13_4, hcz13_5, hfz13_0, hfz13_1, hfz13_2, hfz13_3, hfz13_4, hfz13_5⟩ := cl6 BK267.out))
  go_ret2
  exact ⟨eR3, bR3 HB.out⟩
def ints_Whole.f (k : Nat) (a0 : Int) (a1 : Int) (a2 : Int) : Option (Int × Option Int) := (ints_told.f k a0 a1 a2).bind fun bt271 => (if bt271.2.2.2.isNone = true then (if bt271.2.1 = true then (if 0 ≤ (wrap64 (64 - a0)) then (some (shr .u64 (shl .u64 a1 (wrap64 (64 - a0))) (wrap64 (64 - a0)), none)) else (none)) else ((ints_rounded.f k a0 bt271.1 0 bt271.2.2.1).bind fun bt277 => (some (bt277.1, bt277.2)))) else (some (0, some (bt271.2.2.2.getD 0))))
set_option maxHeartbeats 8000000 in
set_option maxRecDepth 100000 in
theorem ints_Whole.calls (k : Nat) (a0 : Int) (a1 : Int) (a2 : Int) (r1 : Int) (r2 : Option Int) (w : World) (h : ints_Whole.f k a0 a1 a2 = some (r1, r2)) :
  Calls Tryd.prog 6 #[.int .i64 a0, .int .u64 a1, .int .i64 a2] w fun e w' => e = .returned (.tuple #[.int .u64 r1, errW r2]) ∧ Below w.heap.size w w' := by
 have hu47 := Tryd.underlying47
 have hu25 := Tryd.underlying25
 have hu40 := Tryd.underlying40
 have HB := Aside0.mk (Below.refl w.heap.size w)
 have H : ((ints_told.f k a0 a1 a2).bind fun bt271 => (if bt271.2.2.2.isNone = true then (if bt271.2.1 = true then (if 0 ≤ (wrap64 (64 - a0)) then (some (shr .u64 (shl .u64 a1 (wrap64 (64 - a0))) (wrap64 (64 - a0)), none)) else (none)) else ((ints_rounded.f k a0 bt271.1 0 bt271.2.2.1).bind fun bt277 => (some (bt277.1, bt277.2)))) else (some (0, some (bt271.2.2.2.getD 0))))) = some (r1, r2) := h
 clear h
 replace H := Option.bind_eq_some_iff.mp H
 obtain ⟨⟨t271, t272, t273, t274⟩, A40, H⟩ := H
 try dsimp -simprocs only at H
 have A4 := Aside0.mk A40
 clear A40
 rcases t274 with _ | q276
 ·
  rw [if_pos (show (none : Option Int).isNone = true by rfl)] at H
  try simp only [Option.getD_some] at H
  try simp only [errW_none, errW_some]
  by_cases c5 : t272 = true
  ·
   subst c5
   rw [if_pos rfl] at H
   obtain ⟨ji6, hji6⟩ : ∃ j_ : Int, (wrap64 (64 - a0)) = j_ := ⟨_, rfl⟩
   replace H : (if 0 ≤ (ji6) then (some (shr .u64 (shl .u64 a1 (ji6)) (ji6), none)) else (none)) = some (r1, r2) := by first | (rw [hji6] at H; exact H) | (simp only [hji6] at H ⊢; exact H)
   (try rw [hji6] at A4)
   have hji6w : (IntKind.i64.wrap (64 - a0)) = ji6 := (i64_w _).trans hji6
   by_cases c7 : 0 ≤ (ji6)
   ·
    rw [if_pos c7] at H
    have c7b0 := eq_true c7
    have c7b1 : decide (0 ≤ (ji6)) = true := decide_eq_true c7
    clear c7
    obtain ⟨ji8, hji8⟩ : ∃ j_ : Int, (shl .u64 a1 (ji6)) = j_ := ⟨_, rfl⟩
    replace H : (some (shr .u64 (ji8) (ji6), none)) = some (r1, r2) := by first | (rw [hji8] at H; exact H) | (simp only [hji8] at H ⊢; exact H)
    (try rw [hji8] at A4)
    have hji8_ : (IntKind.u64.wrap (a1 * 2 ^ min (ji6).toNat 64)) = ji8 := hji8
    have hji8z : (ji6) ≤ 64 → (IntKind.u64.wrap (a1 * 2 ^ (ji6).toNat)) = ji8 := shl_small hji8
    have c9b0 := eq_true (of_decide_eq_true (by first | (with_reducible assumption) | assumption) : 0 ≤ (ji6))
    obtain ⟨ji10, hji10⟩ : ∃ j_ : Int, (shr .u64 (ji8) (ji6)) = j_ := ⟨_, rfl⟩
    replace H : (some (ji10, none)) = some (r1, r2) := by first | (rw [hji10] at H; exact H) | (simp only [hji10] at H ⊢; exact H)
    (try rw [hji10] at A4)
    have hji10_ : ((ji8) / 2 ^ min (ji6).toNat 64) = ji10 := hji10
    have hji10z : (ji6) ≤ 64 → ((ji8) / 2 ^ (ji6).toNat) = ji10 := shr_small hji10
    simp only [Option.some.injEq, Prod.mk.injEq] at H
    obtain ⟨rfl, rfl⟩ := H
    go_enter Tryd.func6, Tryd.ntmps6
    go_wp2_with (first | ((with_reducible refine gX_ 17 14 rfl rfl ?_); refine goesY_ (some 14) Tryd.func17 #[.int .i64 a0, .int .u64 a1, .int .i64 a2] ?_; (with_reducible refine (ints_told.calls k a0 a1 a2 t271 true t273 none _ A4.out).mono ?_); rintro e w11 ⟨rfl, hb⟩; refine ⟨_, rfl, ?_⟩; replace HB := Aside0.mk (bS3 HB.out hb); (try clear hb); (try clear hk); (try simp only [errW_none, errW_some])) | ((with_reducible refine gD (N := 8) rfl ?_); refine bE3 8 #[.bool false, .bool false, .int .u64 0] 47 ?hr ?_; (case hr => first | (go_simp; done) | (go_simp; rfl)); intro gb275 hg w12 hbox hb; have BK275 := Aside0.mk (hbox); have GW275 := Aside0.mk ((bZ3 hg HB.out)); have GE275 := Aside0.mk ((bZ3 hg HB.out)); replace HB := Aside0.mk (bS3 HB.out hb); clear hb hbox hg; obtain ⟨hcz13_0, hcz13_1, hcz13_2, hfz13_0, hfz13_1, hfz13_2⟩ := cl3 BK275.out))
    go_ret2
    exact ⟨by first | rfl | (simp [errW_none, errW_some] <;> rfl) | (simp only [← hji6, ← hji8, ← hji10]; first | rfl | (simp [errW_none, errW_some] <;> rfl)) | (simp [*, errW_none, errW_some] <;> rfl), bR3 HB.out⟩
   ·
    rw [if_neg c7] at H
    exact absurd H (by simp)
  ·
   replace c5 := Bool.eq_false_iff.mpr c5
   subst c5
   rw [if_neg (show ¬ (false = true) by decide)] at H
   replace H := Option.bind_eq_some_iff.mp H
   obtain ⟨⟨t277, t278⟩, A140, H⟩ := H
   try dsimp -simprocs only at H
   have A14 := Aside0.mk A140
   clear A140
   simp only [Option.some.injEq, Prod.mk.injEq] at H
   obtain ⟨rfl, rfl⟩ := H
   go_enter Tryd.func6, Tryd.ntmps6
   go_wp2_with (first | ((with_reducible refine gX_ 17 14 rfl rfl ?_); refine goesY_ (some 14) Tryd.func17 #[.int .i64 a0, .int .u64 a1, .int .i64 a2] ?_; (with_reducible refine (ints_told.calls k a0 a1 a2 t271 false t273 none _ A4.out).mono ?_); rintro e w15 ⟨rfl, hb⟩; refine ⟨_, rfl, ?_⟩; replace HB := Aside0.mk (bS3 HB.out hb); (try clear hb); (try clear hk); (try simp only [errW_none, errW_some])) | ((with_reducible refine gD (N := 8) rfl ?_); refine bE3 8 #[.bool false, .bool false, .int .u64 0] 47 ?hr ?_; (case hr => first | (go_simp; done) | (go_simp; rfl)); intro gb275 hg w16 hbox hb; have BK275 := Aside0.mk (hbox); have GW275 := Aside0.mk ((bZ3 hg HB.out)); have GE275 := Aside0.mk ((bZ3 hg HB.out)); replace HB := Aside0.mk (bS3 HB.out hb); clear hb hbox hg; obtain ⟨hcz17_0, hcz17_1, hcz17_2, hfz17_0, hfz17_1, hfz17_2⟩ := cl3 BK275.out) | ((with_reducible refine gX_ 18 34 rfl rfl ?_); refine goesY_ (some 34) Tryd.func18 #[.int .i64 a0, .bool t271, .int .u64 0, .int .u64 t273] ?_; (with_reducible refine (ints_rounded.calls k a0 t271 0 t273 t277 t278 _ A14.out).mono ?_); rintro e w18 ⟨rfl, hb⟩; refine ⟨_, rfl, ?_⟩; replace BK275 := Aside0.mk (bB (g := gb275) (o := .cells #[.bool t271, .bool false, .int .u64 t273] 47 (0, 0)) (bQ3 BK275.out) hb); replace HB := Aside0.mk (bS3 HB.out hb); (try clear hb); (try clear hk); (try simp only [errW_none, errW_some])))
   go_ret2
   exact ⟨eR3, bR3 HB.out⟩
 ·
  rw [if_neg (show ¬ (some q276).isNone = true by simp)] at H
  try simp only [Option.getD_some] at H
  try simp only [errW_none, errW_some]
  simp only [Option.some.injEq, Prod.mk.injEq] at H
  obtain ⟨rfl, rfl⟩ := H
  go_enter Tryd.func6, Tryd.ntmps6
  go_wp2_with (first | ((with_reducible refine gX_ 17 14 rfl rfl ?_); refine goesY_ (some 14) Tryd.func17 #[.int .i64 a0, .int .u64 a1, .int .i64 a2] ?_; (with_reducible refine (ints_told.calls k a0 a1 a2 t271 t272 t273 (some q276) _ A4.out).mono ?_); rintro e w19 ⟨rfl, hb⟩; refine ⟨_, rfl, ?_⟩; replace HB := Aside0.mk (bS3 HB.out hb); (try clear hb); (try clear hk); (try simp only [errW_none, errW_some])) | ((with_reducible refine gD (N := 8) rfl ?_); refine bE3 8 #[.bool false, .bool false, .int .u64 0] 47 ?hr ?_; (case hr => first | (go_simp; done) | (go_simp; rfl)); intro gb275 hg w20 hbox hb; have BK275 := Aside0.mk (hbox); have GW275 := Aside0.mk ((bZ3 hg HB.out)); have GE275 := Aside0.mk ((bZ3 hg HB.out)); replace HB := Aside0.mk (bS3 HB.out hb); clear hb hbox hg; obtain ⟨hcz21_0, hcz21_1, hcz21_2, hfz21_0, hfz21_1, hfz21_2⟩ := cl3 BK275.out))
  go_ret2
  exact ⟨eR3, bR3 HB.out⟩
def ints_FromInt.f (k : Nat) (a0 : Int) (a1 : Int) : Option (Int × Option Int) := if a1 < 0 then ((ints_rounded.f k a0 true 0 (IntKind.u64.wrap (-(IntKind.u64.wrap (a1))))).bind fun bt279 => (some (bt279.1, bt279.2))) else ((ints_rounded.f k a0 false 0 (IntKind.u64.wrap (a1))).bind fun bt281 => (some (bt281.1, bt281.2)))
set_option maxHeartbeats 8000000 in
set_option maxRecDepth 100000 in
theorem ints_FromInt.calls (k : Nat) (a0 : Int) (a1 : Int) (r1 : Int) (r2 : Option Int) (w : World) (h : ints_FromInt.f k a0 a1 = some (r1, r2)) :
  Calls Tryd.prog 15 #[.int .i64 a0, .int .i64 a1] w fun e w' => e = .returned (.tuple #[.int .u64 r1, errW r2]) ∧ Below w.heap.size w w' := by
 have HB := Aside0.mk (Below.refl w.heap.size w)
 have H : (if a1 < 0 then ((ints_rounded.f k a0 true 0 (IntKind.u64.wrap (-(IntKind.u64.wrap (a1))))).bind fun bt279 => (some (bt279.1, bt279.2))) else ((ints_rounded.f k a0 false 0 (IntKind.u64.wrap (a1))).bind fun bt281 => (some (bt281.1, bt281.2)))) = some (r1, r2) := h
 clear h
 by_cases c3 : a1 < 0
 ·
  rw [if_pos c3] at H
  have c3b0 : decide (a1 < 0) = true := decide_eq_true c3
  clear c3
  replace H := Option.bind_eq_some_iff.mp H
  obtain ⟨⟨t279, t280⟩, A40, H⟩ := H
  try dsimp -simprocs only at H
  have A4 := Aside0.mk A40
  clear A40
  simp only [Option.some.injEq, Prod.mk.injEq] at H
  obtain ⟨rfl, rfl⟩ := H
  go_enter Tryd.func15, Tryd.ntmps15
  go_wp2_with (first | ((with_reducible refine gX_ 18 12 rfl rfl ?_); refine goesY_ (some 12) Tryd.func18 #[.int .i64 a0, .bool true, .int .u64 0, .int .u64 (IntKind.u64.wrap (-(IntKind.u64.wrap (a1))))] ?_; (with_reducible refine (ints_rounded.calls k a0 true 0 (IntKind.u64.wrap (-(IntKind.u64.wrap (a1)))) t279 t280 _ A4.out).mono ?_); rintro e w5 ⟨rfl, hb⟩; refine ⟨_, rfl, ?_⟩; replace HB := Aside0.mk (bS3 HB.out hb); (try clear hb); (try clear hk); (try simp only [errW_none, errW_some])))
  go_ret2
  exact ⟨eR3, bR3 HB.out⟩
 ·
  rw [if_neg c3] at H
  have c3b0 : decide (a1 < 0) = false := decide_eq_false c3
  clear c3
  replace H := Option.bind_eq_some_iff.mp H
  obtain ⟨⟨t281, t282⟩, A60, H⟩ := H
  try dsimp -simprocs only at H
  have A6 := Aside0.mk A60
  clear A60
  simp only [Option.some.injEq, Prod.mk.injEq] at H
  obtain ⟨rfl, rfl⟩ := H
  go_enter Tryd.func15, Tryd.ntmps15
  go_wp2_with (first | ((with_reducible refine gX_ 18 18 rfl rfl ?_); refine goesY_ (some 18) Tryd.func18 #[.int .i64 a0, .bool false, .int .u64 0, .int .u64 (IntKind.u64.wrap (a1))] ?_; (with_reducible refine (ints_rounded.calls k a0 false 0 (IntKind.u64.wrap (a1)) t281 t282 _ A6.out).mono ?_); rintro e w7 ⟨rfl, hb⟩; refine ⟨_, rfl, ?_⟩; replace HB := Aside0.mk (bS3 HB.out hb); (try clear hb); (try clear hk); (try simp only [errW_none, errW_some])))
  go_ret2
  exact ⟨eR3, bR3 HB.out⟩
def ints_ToInt.j0 : Nat → Bool → Bool → Bool → Int → Option (Int × Option Int)
 | 0, _, _, _, _ => none
 | k + 1, x21, x288000, x288001, x288002 => if x21 = true then (some (0, some 10)) else (if x288000 = true then (some (wrap64 (IntKind.u64.wrap (-x288002)), none)) else (some (wrap64 (x288002), none)))
def ints_ToInt.f (k : Nat) (a0 : Int) (a1 : Int) (a2 : Int) : Option (Int × Option Int) := (ints_told.f k a0 a1 a2).bind fun bt283 => (if bt283.2.2.2.isNone = true then (if bt283.2.1 = true then (ints_ToInt.j0 k true bt283.1 bt283.2.1 bt283.2.2.1) else (if bt283.2.2.1 > 9223372036854775808 then (ints_ToInt.j0 k true bt283.1 bt283.2.1 bt283.2.2.1) else (if bt283.2.2.1 = 9223372036854775808 then (ints_ToInt.j0 k (!bt283.1) bt283.1 bt283.2.1 bt283.2.2.1) else (ints_ToInt.j0 k false bt283.1 bt283.2.1 bt283.2.2.1)))) else (some (0, some (bt283.2.2.2.getD 0))))
set_option maxHeartbeats 8000000 in
set_option maxRecDepth 100000 in
theorem ints_ToInt.calls (k : Nat) (a0 : Int) (a1 : Int) (a2 : Int) (r1 : Int) (r2 : Option Int) (w : World) (h : ints_ToInt.f k a0 a1 a2 = some (r1, r2)) :
  Calls Tryd.prog 16 #[.int .i64 a0, .int .u64 a1, .int .i64 a2] w fun e w' => e = .returned (.tuple #[.int .i64 r1, errW r2]) ∧ Below w.heap.size w w' := by
 have hu47 := Tryd.underlying47
 have hu25 := Tryd.underlying25
 have hu40 := Tryd.underlying40
 have HB := Aside0.mk (Below.refl w.heap.size w)
 have H : ((ints_told.f k a0 a1 a2).bind fun bt283 => (if bt283.2.2.2.isNone = true then (if bt283.2.1 = true then (ints_ToInt.j0 k true bt283.1 bt283.2.1 bt283.2.2.1) else (if bt283.2.2.1 > 9223372036854775808 then (ints_ToInt.j0 k true bt283.1 bt283.2.1 bt283.2.2.1) else (if bt283.2.2.1 = 9223372036854775808 then (ints_ToInt.j0 k (!bt283.1) bt283.1 bt283.2.1 bt283.2.2.1) else (ints_ToInt.j0 k false bt283.1 bt283.2.1 bt283.2.2.1)))) else (some (0, some (bt283.2.2.2.getD 0))))) = some (r1, r2) := h
 clear h
 replace H := Option.bind_eq_some_iff.mp H
 obtain ⟨⟨t283, t284, t285, t286⟩, A40, H⟩ := H
 try dsimp -simprocs only at H
 have A4 := Aside0.mk A40
 clear A40
 rcases t286 with _ | q288
 ·
  rw [if_pos (show (none : Option Int).isNone = true by rfl)] at H
  try simp only [Option.getD_some] at H
  try simp only [errW_none, errW_some]
  have HC5 := Aside0.mk H
  clear H
  go_enter Tryd.func16, Tryd.ntmps16
  go_upto_region 4 with (first | ((with_reducible refine gX_ 17 14 rfl rfl ?_); refine goesY_ (some 14) Tryd.func17 #[.int .i64 a0, .int .u64 a1, .int .i64 a2] ?_; (with_reducible refine (ints_told.calls k a0 a1 a2 t283 t284 t285 none _ A4.out).mono ?_); rintro e w6 ⟨rfl, hb⟩; refine ⟨_, rfl, ?_⟩; replace HB := Aside0.mk (bS3 HB.out hb); (try clear hb); (try clear hk); (try simp only [errW_none, errW_some])) | ((with_reducible refine gD (N := 8) rfl ?_); refine bE3 8 #[.bool false, .bool false, .int .u64 0] 47 ?hr ?_; (case hr => first | (go_simp; done) | (go_simp; rfl)); intro gb287 hg w7 hbox hb; have BK287 := Aside0.mk (hbox); have GW287 := Aside0.mk ((bZ3 hg HB.out)); have GE287 := Aside0.mk ((bZ3 hg HB.out)); replace HB := Aside0.mk (bS3 HB.out hb); clear hb hbox hg; obtain ⟨hcz8_0, hcz8_1, hcz8_2, hfz8_0, hfz8_1, hfz8_2⟩ := cl3 BK287.out))
  (try simp only [Act.put, lS_, lZ_, lC_])
  go_cut [21] (fun v21 wc => ∃ (kq : Nat) (x21_4 : Bool), v21 = .bool x21_4 ∧ Aside0 (ints_ToInt.j0 kq x21_4 t283 t284 t285 = some (r1, r2)) ∧ Aside0 (kq ≤ k) ∧ Aside0 (wc.heap[gb287]? = some (.cells #[.bool t283, .bool t284, .int .u64 t285] 47 (0, 0))) ∧ Aside0 (Below w.heap.size w wc))
  case first =>
   have H := HC5.out
   clear HC5
   by_cases c9 : t284 = true
   ·
    subst c9
    rw [if_pos rfl] at H
    have H' := Aside0.mk H
    clear H
    obtain ⟨hcz10_0, hcz10_1, hcz10_2, hfz10_0, hfz10_1, hfz10_2⟩ := cl3 BK287.out
    go_wp2
    go_meet
    case rel => exact ⟨_, (true), (by first | rfl | (simp; done) | (simp [*]; done)), H', ⟨by first | omega | exact Nat.le_refl _⟩, ⟨bQ3 BK287.out⟩, ⟨bR3 HB.out⟩⟩
   ·
    replace c9 := Bool.eq_false_iff.mpr c9
    subst c9
    rw [if_neg (show ¬ (false = true) by decide)] at H
    by_cases c11 : t285 > 9223372036854775808
    ·
     rw [if_pos c11] at H
     have c11b0 : decide (9223372036854775808 < t285) = true := decide_eq_true c11
     clear c11
     (first | rw [c11b0] | (simp only [i64_w, i32_w]; rw [c11b0]) | skip)
     have H' := Aside0.mk H
     clear H
     obtain ⟨hcz12_0, hcz12_1, hcz12_2, hfz12_0, hfz12_1, hfz12_2⟩ := cl3 BK287.out
     go_wp2
     go_meet
     case rel => exact ⟨_, (true), (by first | rfl | (simp; done) | (simp [*]; done)), H', ⟨by first | omega | exact Nat.le_refl _⟩, ⟨bQ3 BK287.out⟩, ⟨bR3 HB.out⟩⟩
    ·
     rw [if_neg c11] at H
     have c11b0 : decide (9223372036854775808 < t285) = false := decide_eq_false c11
     clear c11
     (first | rw [c11b0] | (simp only [i64_w, i32_w]; rw [c11b0]) | skip)
     by_cases c13 : t285 = 9223372036854775808
     ·
      rw [if_pos c13] at H
      have c13b0 : (t285 == 9223372036854775808) = true := beq_iff_eq.mpr c13
      have c13b1 : (t285 != 9223372036854775808) = false := bne_eq_false_iff_eq.mpr c13
      clear c13
      have H' := Aside0.mk H
      clear H
      obtain ⟨hcz14_0, hcz14_1, hcz14_2, hfz14_0, hfz14_1, hfz14_2⟩ := cl3 BK287.out
      go_wp2
      go_meet
      case rel => exact ⟨_, (!t283), (by first | rfl | (simp; done) | (simp [*]; done)), H', ⟨by first | omega | exact Nat.le_refl _⟩, ⟨bQ3 BK287.out⟩, ⟨bR3 HB.out⟩⟩
     ·
      rw [if_neg c13] at H
      have c13b0 : (t285 == 9223372036854775808) = false := beq_eq_false_iff_ne.mpr c13
      have c13b1 : (t285 != 9223372036854775808) = true := bne_iff_ne.mpr c13
      have H' := Aside0.mk H
      clear H
      obtain ⟨hcz15_0, hcz15_1, hcz15_2, hfz15_0, hfz15_1, hfz15_2⟩ := cl3 BK287.out
      go_wp2
      go_meet
      case rel => exact ⟨_, (false), (by first | rfl | (simp; done) | (simp [*]; done)), H', ⟨by first | omega | exact Nat.le_refl _⟩, ⟨bQ3 BK287.out⟩, ⟨bR3 HB.out⟩⟩
  case rest =>
   clear HC5
   try clear c1
   try clear p2
   try clear q2
   try clear c9
   try clear c11
   try clear c11b0
   try clear c13
   try clear c13b0
   try clear c13b1
   try clear hcz10_0 hcz10_1 hcz10_2
   try clear hcz12_0 hcz12_1 hcz12_2
   try clear hcz14_0 hcz14_1 hcz14_2
   try clear hcz15_0 hcz15_1 hcz15_2
   try clear hcz8_0 hcz8_1 hcz8_2
   try clear hfz10_0 hfz10_1 hfz10_2
   try clear hfz12_0 hfz12_1 hfz12_2
   try clear hfz14_0 hfz14_1 hfz14_2
   try clear hfz15_0 hfz15_1 hfz15_2
   try clear hfz8_0 hfz8_1 hfz8_2
   try clear q288
   obtain ⟨kq, x21_4, rfl, HA, HJ4, BK287, HB⟩ := hcut
   cases kq with
   | zero => exact absurd HA.out (by simp [ints_ToInt.j0])
   | succ kj4 =>
    have H := HA.out
    clear HA
    simp only [ints_ToInt.j0] at H
    by_cases c16 : x21_4 = true
    ·
     subst c16
     rw [if_pos rfl] at H
     simp only [Option.some.injEq, Prod.mk.injEq] at H
     obtain ⟨rfl, rfl⟩ := H
     go_wp2
     go_ret2
     exact ⟨eR3, bR3 HB.out⟩
    ·
     replace c16 := Bool.eq_false_iff.mpr c16
     subst c16
     rw [if_neg (show ¬ (false = true) by decide)] at H
     by_cases c17 : t283 = true
     ·
      subst c17
      rw [if_pos rfl] at H
      simp only [Option.some.injEq, Prod.mk.injEq] at H
      obtain ⟨rfl, rfl⟩ := H
      obtain ⟨hcz18_0, hcz18_1, hcz18_2, hfz18_0, hfz18_1, hfz18_2⟩ := cl3 BK287.out
      go_wp2
      go_ret2
      exact ⟨eR3, bR3 HB.out⟩
     ·
      replace c17 := Bool.eq_false_iff.mpr c17
      subst c17
      rw [if_neg (show ¬ (false = true) by decide)] at H
      simp only [Option.some.injEq, Prod.mk.injEq] at H
      obtain ⟨rfl, rfl⟩ := H
      obtain ⟨hcz19_0, hcz19_1, hcz19_2, hfz19_0, hfz19_1, hfz19_2⟩ := cl3 BK287.out
      go_wp2
      go_ret2
      exact ⟨eR3, bR3 HB.out⟩
 ·
  rw [if_neg (show ¬ (some q288).isNone = true by simp)] at H
  try simp only [Option.getD_some] at H
  try simp only [errW_none, errW_some]
  simp only [Option.some.injEq, Prod.mk.injEq] at H
  obtain ⟨rfl, rfl⟩ := H
  go_enter Tryd.func16, Tryd.ntmps16
  go_wp2_with (first | ((with_reducible refine gX_ 17 14 rfl rfl ?_); refine goesY_ (some 14) Tryd.func17 #[.int .i64 a0, .int .u64 a1, .int .i64 a2] ?_; (with_reducible refine (ints_told.calls k a0 a1 a2 t283 t284 t285 (some q288) _ A4.out).mono ?_); rintro e w20 ⟨rfl, hb⟩; refine ⟨_, rfl, ?_⟩; replace HB := Aside0.mk (bS3 HB.out hb); (try clear hb); (try clear hk); (try simp only [errW_none, errW_some])) | ((with_reducible refine gD (N := 8) rfl ?_); refine bE3 8 #[.bool false, .bool false, .int .u64 0] 47 ?hr ?_; (case hr => first | (go_simp; done) | (go_simp; rfl)); intro gb287 hg w21 hbox hb; have BK287 := Aside0.mk (hbox); have GW287 := Aside0.mk ((bZ3 hg HB.out)); have GE287 := Aside0.mk ((bZ3 hg HB.out)); replace HB := Aside0.mk (bS3 HB.out hb); clear hb hbox hg; obtain ⟨hcz22_0, hcz22_1, hcz22_2, hfz22_0, hfz22_1, hfz22_2⟩ := cl3 BK287.out))
  go_ret2
  exact ⟨eR3, bR3 HB.out⟩
def ints_IsWhole.f (k : Nat) (a0 : Int) (a1 : Int) : Option (Bool × Option Int) := (codec_Decode.f k a0 a1).bind fun bt301 => (if bt301.2.2.2.2.isNone = true then (if bt301.1 = 2 then (some (false, some 9)) else (if bt301.1 = 0 then (some (true, none)) else (if bt301.2.2.1 ≥ 63 then (some (true, none)) else ((bits_TrailingZeros64.f bt301.2.2.2.1).bind fun t308 => (some (decide (t308 ≥ (wrap64 (63 - bt301.2.2.1))), none)))))) else (some (false, some (bt301.2.2.2.2.getD 0))))
set_option maxHeartbeats 8000000 in
set_option maxRecDepth 100000 in
theorem ints_IsWhole.calls (k : Nat) (a0 : Int) (a1 : Int) (r1 : Bool) (r2 : Option Int) (w : World) (HT : Tz w) (h : ints_IsWhole.f k a0 a1 = some (r1, r2)) :
  Calls Tryd.prog 7 #[.int .i64 a0, .int .u64 a1] w fun e w' => e = .returned (.tuple #[.bool r1, errW r2]) ∧ Below w.heap.size w w' := by
 have hu52 := Tryd.underlying52
 have hu25 := Tryd.underlying25
 have hu40 := Tryd.underlying40
 have HB := Aside0.mk (Below.refl w.heap.size w)
 have H : ((codec_Decode.f k a0 a1).bind fun bt301 => (if bt301.2.2.2.2.isNone = true then (if bt301.1 = 2 then (some (false, some 9)) else (if bt301.1 = 0 then (some (true, none)) else (if bt301.2.2.1 ≥ 63 then (some (true, none)) else ((bits_TrailingZeros64.f bt301.2.2.2.1).bind fun t308 => (some (decide (t308 ≥ (wrap64 (63 - bt301.2.2.1))), none)))))) else (some (false, some (bt301.2.2.2.2.getD 0))))) = some (r1, r2) := h
 clear h
 replace H := Option.bind_eq_some_iff.mp H
 obtain ⟨⟨t301, t302, t303, t304, t305⟩, A30, H⟩ := H
 try dsimp -simprocs only at H
 have A3 := Aside0.mk A30
 clear A30
 rcases t305 with _ | q307
 ·
  rw [if_pos (show (none : Option Int).isNone = true by rfl)] at H
  try simp only [Option.getD_some] at H
  try simp only [errW_none, errW_some]
  by_cases c4 : t301 = 2
  ·
   rw [if_pos c4] at H
   have c4b0 : (t301 == 2) = true := beq_iff_eq.mpr c4
   have c4b1 : (t301 != 2) = false := bne_eq_false_iff_eq.mpr c4
   clear c4
   simp only [Option.some.injEq, Prod.mk.injEq] at H
   obtain ⟨rfl, rfl⟩ := H
   go_enter Tryd.func7, Tryd.ntmps7
   go_wp2_with (first | (go_at_call 19; (with_reducible refine (codec_Decode.calls k a0 a1 t301 t302 t303 t304 none _ A3.out).mono ?_); rintro e w5 ⟨rfl, hb⟩; replace HB := Aside0.mk (bS3 HB.out hb); (try clear hb); (try clear hk); (try simp only [errW_none, errW_some])) | ((with_reducible refine gD (N := 6) rfl ?_); refine bE3 6 #[.int .i64 0, .bool false, .int .i64 0, .int .u64 0] 52 ?hr ?_; (case hr => first | (go_simp; done) | (go_simp; rfl)); intro gb306 hg w6 hbox hb; have BK306 := Aside0.mk (hbox); have GW306 := Aside0.mk ((bZ3 hg HB.out)); have GE306 := Aside0.mk ((bZ3 hg HB.out)); replace HB := Aside0.mk (bS3 HB.out hb); clear hb hbox hg; obtain ⟨hcz7_0, hcz7_1, hcz7_2, hcz7_3, hfz7_0, hfz7_1, hfz7_2, hfz7_3⟩ := cl4 BK306.out))
   repeat (go_quiet (first | (go_at_call 19; (with_reducible refine (codec_Decode.calls k a0 a1 t301 t302 t303 t304 none _ A3.out).mono ?_); rintro e w5 ⟨rfl, hb⟩; replace HB := Aside0.mk (bS3 HB.out hb); (try clear hb); (try clear hk); (try simp only [errW_none, errW_some])) | ((with_reducible refine gD (N := 6) rfl ?_); refine bE3 6 #[.int .i64 0, .bool false, .int .i64 0, .int .u64 0] 52 ?hr ?_; (case hr => first | (go_simp; done) | (go_simp; rfl)); intro gb306 hg w6 hbox hb; have BK306 := Aside0.mk (hbox); have GW306 := Aside0.mk ((bZ3 hg HB.out)); have GE306 := Aside0.mk ((bZ3 hg HB.out)); replace HB := Aside0.mk (bS3 HB.out hb); clear hb hbox hg; obtain ⟨hcz7_0, hcz7_1, hcz7_2, hcz7_3, hfz7_0, hfz7_1, hfz7_2, hfz7_3⟩ := cl4 BK306.out)); try go_wp2_with (first | (go_at_call 19; (with_reducible refine (codec_Decode.calls k a0 a1 t301 t302 t303 t304 none _ A3.out).mono ?_); rintro e w5 ⟨rfl, hb⟩; replace HB := Aside0.mk (bS3 HB.out hb); (try clear hb); (try clear hk); (try simp only [errW_none, errW_some])) | ((with_reducible refine gD (N := 6) rfl ?_); refine bE3 6 #[.int .i64 0, .bool false, .int .i64 0, .int .u64 0] 52 ?hr ?_; (case hr => first | (go_simp; done) | (go_simp; rfl)); intro gb306 hg w6 hbox hb; have BK306 := Aside0.mk (hbox); have GW306 := Aside0.mk ((bZ3 hg HB.out)); have GE306 := Aside0.mk ((bZ3 hg HB.out)); replace HB := Aside0.mk (bS3 HB.out hb); clear hb hbox hg; obtain ⟨hcz7_0, hcz7_1, hcz7_2, hcz7_3, hfz7_0, hfz7_1, hfz7_2, hfz7_3⟩ := cl4 BK306.out)))
   go_ret2
   exact ⟨eR3, bR3 HB.out⟩
  ·
   rw [if_neg c4] at H
   have c4b0 : (t301 == 2) = false := beq_eq_false_iff_ne.mpr c4
   have c4b1 : (t301 != 2) = true := bne_iff_ne.mpr c4
   by_cases c8 : t301 = 0
   ·
    rw [if_pos c8] at H
    have c8b0 : (t301 == 0) = true := beq_iff_eq.mpr c8
    have c8b1 : (t301 != 0) = false := bne_eq_false_iff_eq.mpr c8
    clear c8
    simp only [Option.some.injEq, Prod.mk.injEq] at H
    obtain ⟨rfl, rfl⟩ := H
    go_enter Tryd.func7, Tryd.ntmps7
    go_wp2_with (first | (go_at_call 19; (with_reducible refine (codec_Decode.calls k a0 a1 t301 t302 t303 t304 none _ A3.out).mono ?_); rintro e w9 ⟨rfl, hb⟩; replace HB := Aside0.mk (bS3 HB.out hb); (try clear hb); (try clear hk); (try simp only [errW_none, errW_some])) | ((with_reducible refine gD (N := 6) rfl ?_); refine bE3 6 #[.int .i64 0, .bool false, .int .i64 0, .int .u64 0] 52 ?hr ?_; (case hr => first | (go_simp; done) | (go_simp; rfl)); intro gb306 hg w10 hbox hb; have BK306 := Aside0.mk (hbox); have GW306 := Aside0.mk ((bZ3 hg HB.out)); have GE306 := Aside0.mk ((bZ3 hg HB.out)); replace HB := Aside0.mk (bS3 HB.out hb); clear hb hbox hg; obtain ⟨hcz11_0, hcz11_1, hcz11_2, hcz11_3, hfz11_0, hfz11_1, hfz11_2, hfz11_3⟩ := cl4 BK306.out))
    repeat (go_quiet (first | (go_at_call 19; (with_reducible refine (codec_Decode.calls k a0 a1 t301 t302 t303 t304 none _ A3.out).mono ?_); rintro e w9 ⟨rfl, hb⟩; replace HB := Aside0.mk (bS3 HB.out hb); (try clear hb); (try clear hk); (try simp only [errW_none, errW_some])) | ((with_reducible refine gD (N := 6) rfl ?_); refine bE3 6 #[.int .i64 0, .bool false, .int .i64 0, .int .u64 0] 52 ?hr ?_; (case hr => first | (go_simp; done) | (go_simp; rfl)); intro gb306 hg w10 hbox hb; have BK306 := Aside0.mk (hbox); have GW306 := Aside0.mk ((bZ3 hg HB.out)); have GE306 := Aside0.mk ((bZ3 hg HB.out)); replace HB := Aside0.mk (bS3 HB.out hb); clear hb hbox hg; obtain ⟨hcz11_0, hcz11_1, hcz11_2, hcz11_3, hfz11_0, hfz11_1, hfz11_2, hfz11_3⟩ := cl4 BK306.out)); try go_wp2_with (first | (go_at_call 19; (with_reducible refine (codec_Decode.calls k a0 a1 t301 t302 t303 t304 none _ A3.out).mono ?_); rintro e w9 ⟨rfl, hb⟩; replace HB := Aside0.mk (bS3 HB.out hb); (try clear hb); (try clear hk); (try simp only [errW_none, errW_some])) | ((with_reducible refine gD (N := 6) rfl ?_); refine bE3 6 #[.int .i64 0, .bool false, .int .i64 0, .int .u64 0] 52 ?hr ?_; (case hr => first | (go_simp; done) | (go_simp; rfl)); intro gb306 hg w10 hbox hb; have BK306 := Aside0.mk (hbox); have GW306 := Aside0.mk ((bZ3 hg HB.out)); have GE306 := Aside0.mk ((bZ3 hg HB.out)); replace HB := Aside0.mk (bS3 HB.out hb); clear hb hbox hg; obtain ⟨hcz11_0, hcz11_1, hcz11_2, hcz11_3, hfz11_0, hfz11_1, hfz11_2, hfz11_3⟩ := cl4 BK306.out)))
    go_ret2
    exact ⟨eR3, bR3 HB.out⟩
   ·
    rw [if_neg c8] at H
    have c8b0 : (t301 == 0) = false := beq_eq_false_iff_ne.mpr c8
    have c8b1 : (t301 != 0) = true := bne_iff_ne.mpr c8
    by_cases c12 : t303 ≥ 63
    ·
     rw [if_pos c12] at H
     have c12b0 : decide (63 ≤ t303) = true := decide_eq_true c12
     clear c12
     simp only [Option.some.injEq, Prod.mk.injEq] at H
     obtain ⟨rfl, rfl⟩ := H
     go_enter Tryd.func7, Tryd.ntmps7
     go_wp2_with (first | (go_at_call 19; (with_reducible refine (codec_Decode.calls k a0 a1 t301 t302 t303 t304 none _ A3.out).mono ?_); rintro e w13 ⟨rfl, hb⟩; replace HB := Aside0.mk (bS3 HB.out hb); (try clear hb); (try clear hk); (try simp only [errW_none, errW_some])) | ((with_reducible refine gD (N := 6) rfl ?_); refine bE3 6 #[.int .i64 0, .bool false, .int .i64 0, .int .u64 0] 52 ?hr ?_; (case hr => first | (go_simp; done) | (go_simp; rfl)); intro gb306 hg w14 hbox hb; have BK306 := Aside0.mk (hbox); have GW306 := Aside0.mk ((bZ3 hg HB.out)); have GE306 := Aside0.mk ((bZ3 hg HB.out)); replace HB := Aside0.mk (bS3 HB.out hb); clear hb hbox hg; obtain ⟨hcz15_0, hcz15_1, hcz15_2, hcz15_3, hfz15_0, hfz15_1, hfz15_2, hfz15_3⟩ := cl4 BK306.out))
     repeat (go_quiet (first | (go_at_call 19; (with_reducible refine (codec_Decode.calls k a0 a1 t301 t302 t303 t304 none _ A3.out).mono ?_); rintro e w13 ⟨rfl, hb⟩; replace HB := Aside0.mk (bS3 HB.out hb); (try clear hb); (try clear hk); (try simp only [errW_none, errW_some])) | ((with_reducible refine gD (N := 6) rfl ?_); refine bE3 6 #[.int .i64 0, .bool false, .int .i64 0, .int .u64 0] 52 ?hr ?_; (case hr => first | (go_simp; done) | (go_simp; rfl)); intro gb306 hg w14 hbox hb; have BK306 := Aside0.mk (hbox); have GW306 := Aside0.mk ((bZ3 hg HB.out)); have GE306 := Aside0.mk ((bZ3 hg HB.out)); replace HB := Aside0.mk (bS3 HB.out hb); clear hb hbox hg; obtain ⟨hcz15_0, hcz15_1, hcz15_2, hcz15_3, hfz15_0, hfz15_1, hfz15_2, hfz15_3⟩ := cl4 BK306.out)); try go_wp2_with (first | (go_at_call 19; (with_reducible refine (codec_Decode.calls k a0 a1 t301 t302 t303 t304 none _ A3.out).mono ?_); rintro e w13 ⟨rfl, hb⟩; replace HB := Aside0.mk (bS3 HB.out hb); (try clear hb); (try clear hk); (try simp only [errW_none, errW_some])) | ((with_reducible refine gD (N := 6) rfl ?_); refine bE3 6 #[.int .i64 0, .bool false, .int .i64 0, .int .u64 0] 52 ?hr ?_; (case hr => first | (go_simp; done) | (go_simp; rfl)); intro gb306 hg w14 hbox hb; have BK306 := Aside0.mk (hbox); have GW306 := Aside0.mk ((bZ3 hg HB.out)); have GE306 := Aside0.mk ((bZ3 hg HB.out)); replace HB := Aside0.mk (bS3 HB.out hb); clear hb hbox hg; obtain ⟨hcz15_0, hcz15_1, hcz15_2, hcz15_3, hfz15_0, hfz15_1, hfz15_2, hfz15_3⟩ := cl4 BK306.out)))
     go_ret2
     exact ⟨eR3, bR3 HB.out⟩
    ·
     rw [if_neg c12] at H
     have c12b0 : decide (63 ≤ t303) = false := decide_eq_false c12
     clear c12
     replace H := Option.bind_eq_some_iff.mp H
     obtain ⟨t308, A160, H⟩ := H
     try dsimp -simprocs only at H
     have A16 := Aside0.mk A160
     clear A160
     simp only [Option.some.injEq, Prod.mk.injEq] at H
     obtain ⟨rfl, rfl⟩ := H
     go_enter Tryd.func7, Tryd.ntmps7
     go_wp2_with (first | (go_at_call 19; (with_reducible refine (codec_Decode.calls k a0 a1 t301 t302 t303 t304 none _ A3.out).mono ?_); rintro e w17 ⟨rfl, hb⟩; replace HB := Aside0.mk (bS3 HB.out hb); (try clear hb); (try clear hk); (try simp only [errW_none, errW_some])) | ((with_reducible refine gD (N := 6) rfl ?_); refine bE3 6 #[.int .i64 0, .bool false, .int .i64 0, .int .u64 0] 52 ?hr ?_; (case hr => first | (go_simp; done) | (go_simp; rfl)); intro gb306 hg w18 hbox hb; have BK306 := Aside0.mk (hbox); have GW306 := Aside0.mk ((bZ3 hg HB.out)); have GE306 := Aside0.mk ((bZ3 hg HB.out)); replace HB := Aside0.mk (bS3 HB.out hb); clear hb hbox hg; obtain ⟨hcz19_0, hcz19_1, hcz19_2, hcz19_3, hfz19_0, hfz19_1, hfz19_2, hfz19_3⟩ := cl4 BK306.out) | (go_at_call 20; (with_reducible refine (bits_TrailingZeros64.calls t304 t308 _ (tz3 HT) A16.out).mono ?_); rintro e w' ⟨rfl, ⟨nd, rfl⟩⟩; (try first | exact ⟨rfl, _, World.drewN_drewN _ _ _⟩ | exact ⟨rfl, _, Eq.trans (World.drewN_drewN _ _ _) (congrArg (World.drewN _) (Nat.add_assoc _ _ _))⟩)))
     repeat (go_quiet (first | (go_at_call 19; (with_reducible refine (codec_Decode.calls k a0 a1 t301 t302 t303 t304 none _ A3.out).mono ?_); rintro e w17 ⟨rfl, hb⟩; replace HB := Aside0.mk (bS3 HB.out hb); (try clear hb); (try clear hk); (try simp only [errW_none, errW_some])) | ((with_reducible refine gD (N := 6) rfl ?_); refine bE3 6 #[.int .i64 0, .bool false, .int .i64 0, .int .u64 0] 52 ?hr ?_; (case hr => first | (go_simp; done) | (go_simp; rfl)); intro gb306 hg w18 hbox hb; have BK306 := Aside0.mk (hbox); have GW306 := Aside0.mk ((bZ3 hg HB.out)); have GE306 := Aside0.mk ((bZ3 hg HB.out)); replace HB := Aside0.mk (bS3 HB.out hb); clear hb hbox hg; obtain ⟨hcz19_0, hcz19_1, hcz19_2, hcz19_3, hfz19_0, hfz19_1, hfz19_2, hfz19_3⟩ := cl4 BK306.out) | (go_at_call 20; (with_reducible refine (bits_TrailingZeros64.calls t304 t308 _ (tz3 HT) A16.out).mono ?_); rintro e w' ⟨rfl, ⟨nd, rfl⟩⟩; (try first | exact ⟨rfl, _, World.drewN_drewN _ _ _⟩ | exact ⟨rfl, _, Eq.trans (World.drewN_drewN _ _ _) (congrArg (World.drewN _) (Nat.add_assoc _ _ _))⟩))); try go_wp2_with (first | (go_at_call 19; (with_reducible refine (codec_Decode.calls k a0 a1 t301 t302 t303 t304 none _ A3.out).mono ?_); rintro e w17 ⟨rfl, hb⟩; replace HB := Aside0.mk (bS3 HB.out hb); (try clear hb); (try clear hk); (try simp only [errW_none, errW_some])) | ((with_reducible refine gD (N := 6) rfl ?_); refine bE3 6 #[.int .i64 0, .bool false, .int .i64 0, .int .u64 0] 52 ?hr ?_; (case hr => first | (go_simp; done) | (go_simp; rfl)); intro gb306 hg w18 hbox hb; have BK306 := Aside0.mk (hbox); have GW306 := Aside0.mk ((bZ3 hg HB.out)); have GE306 := Aside0.mk ((bZ3 hg HB.out)); replace HB := Aside0.mk (bS3 HB.out hb); clear hb hbox hg; obtain ⟨hcz19_0, hcz19_1, hcz19_2, hcz19_3, hfz19_0, hfz19_1, hfz19_2, hfz19_3⟩ := cl4 BK306.out) | (go_at_call 20; (with_reducible refine (bits_TrailingZeros64.calls t304 t308 _ (tz3 HT) A16.out).mono ?_); rintro e w' ⟨rfl, ⟨nd, rfl⟩⟩; (try first | exact ⟨rfl, _, World.drewN_drewN _ _ _⟩ | exact ⟨rfl, _, Eq.trans (World.drewN_drewN _ _ _) (congrArg (World.drewN _) (Nat.add_assoc _ _ _))⟩))))
     go_ret2
     exact ⟨eR3, bR3 HB.out⟩
 ·
  rw [if_neg (show ¬ (some q307).isNone = true by simp)] at H
  try simp only [Option.getD_some] at H
  try simp only [errW_none, errW_some]
  simp only [Option.some.injEq, Prod.mk.injEq] at H
  obtain ⟨rfl, rfl⟩ := H
  go_enter Tryd.func7, Tryd.ntmps7
  go_wp2_with (first | (go_at_call 19; (with_reducible refine (codec_Decode.calls k a0 a1 t301 t302 t303 t304 (some q307) _ A3.out).mono ?_); rintro e w20 ⟨rfl, hb⟩; replace HB := Aside0.mk (bS3 HB.out hb); (try clear hb); (try clear hk); (try simp only [errW_none, errW_some])) | ((with_reducible refine gD (N := 6) rfl ?_); refine bE3 6 #[.int .i64 0, .bool false, .int .i64 0, .int .u64 0] 52 ?hr ?_; (case hr => first | (go_simp; done) | (go_simp; rfl)); intro gb306 hg w21 hbox hb; have BK306 := Aside0.mk (hbox); have GW306 := Aside0.mk ((bZ3 hg HB.out)); have GE306 := Aside0.mk ((bZ3 hg HB.out)); replace HB := Aside0.mk (bS3 HB.out hb); clear hb hbox hg; obtain ⟨hcz22_0, hcz22_1, hcz22_2, hcz22_3, hfz22_0, hfz22_1, hfz22_2, hfz22_3⟩ := cl4 BK306.out))
  repeat (go_quiet (first | (go_at_call 19; (with_reducible refine (codec_Decode.calls k a0 a1 t301 t302 t303 t304 (some q307) _ A3.out).mono ?_); rintro e w20 ⟨rfl, hb⟩; replace HB := Aside0.mk (bS3 HB.out hb); (try clear hb); (try clear hk); (try simp only [errW_none, errW_some])) | ((with_reducible refine gD (N := 6) rfl ?_); refine bE3 6 #[.int .i64 0, .bool false, .int .i64 0, .int .u64 0] 52 ?hr ?_; (case hr => first | (go_simp; done) | (go_simp; rfl)); intro gb306 hg w21 hbox hb; have BK306 := Aside0.mk (hbox); have GW306 := Aside0.mk ((bZ3 hg HB.out)); have GE306 := Aside0.mk ((bZ3 hg HB.out)); replace HB := Aside0.mk (bS3 HB.out hb); clear hb hbox hg; obtain ⟨hcz22_0, hcz22_1, hcz22_2, hcz22_3, hfz22_0, hfz22_1, hfz22_2, hfz22_3⟩ := cl4 BK306.out)); try go_wp2_with (first | (go_at_call 19; (with_reducible refine (codec_Decode.calls k a0 a1 t301 t302 t303 t304 (some q307) _ A3.out).mono ?_); rintro e w20 ⟨rfl, hb⟩; replace HB := Aside0.mk (bS3 HB.out hb); (try clear hb); (try clear hk); (try simp only [errW_none, errW_some])) | ((with_reducible refine gD (N := 6) rfl ?_); refine bE3 6 #[.int .i64 0, .bool false, .int .i64 0, .int .u64 0] 52 ?hr ?_; (case hr => first | (go_simp; done) | (go_simp; rfl)); intro gb306 hg w21 hbox hb; have BK306 := Aside0.mk (hbox); have GW306 := Aside0.mk ((bZ3 hg HB.out)); have GE306 := Aside0.mk ((bZ3 hg HB.out)); replace HB := Aside0.mk (bS3 HB.out hb); clear hb hbox hg; obtain ⟨hcz22_0, hcz22_1, hcz22_2, hcz22_3, hfz22_0, hfz22_1, hfz22_2, hfz22_3⟩ := cl4 BK306.out)))
  go_ret2
  exact ⟨eR3, bR3 HB.out⟩
end Go.Proofs.YtlllaoihpkdpmaaDoor.F
