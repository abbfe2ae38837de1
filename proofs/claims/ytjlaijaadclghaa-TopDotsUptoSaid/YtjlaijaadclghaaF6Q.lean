/- Printed functions and their walks; no further conditions. -/
import Derived.Test.YtjlaijaadclghaaF0Q
import Derived.Test.YtjlaijaadclghaaF3Q
import Derived.Test.YtjlaijaadclghaaF4Q
namespace Go.Proofs.Ytjlaijaadclghaa.F
open RowKit YtjlaijaadclghaaW PrintWords PrintLast PrintMore
attribute [local go_sem high] xor_u64 xor_u32
attribute [local go_sem] max2_int min2_int max_two min_two max_three min_three max_four min_four
set_option linter.all false
mutual
def codec_Split.j0 : Nat → Int → Int → Option Int → Bool → Option (Bool × Bool × Int × Int × Int × Int × Int × Int × Option Int)
 | 0, _, _, _, _ => none
 | k + 1, x0, x1, x7, x25 => if x25 = true then (some (false, false, 0, 0, 0, 0, 0, 0, x7)) else ((shape_Rank.f x0 x1).bind fun bt121 => (if bt121.1 < 0 then (codec_Split.j1 k x0 (IntKind.u64.wrap (-x1)) true false 0 0 0 0 0 0) else (codec_Split.j1 k x0 x1 false false 0 0 0 0 0 0)))
def codec_Split.j1 : Nat → Int → Int → Bool → Bool → Int → Int → Int → Int → Int → Int → Option (Bool × Bool × Int × Int × Int × Int × Int × Int × Option Int)
 | 0, _, _, _, _, _, _, _, _, _, _ => none
 | k + 1, x0, x1, x121000, x121001, x121002, x121003, x121004, x121005, x121006, x121007 => (lead_Run.f k x1 (wrap64 (x0 - 1))).bind fun bt123 => (if bt123.1 = true then ((lead_Field.f x1 (wrap64 ((mx (wrap64 ((wrap64 ((wrap64 (x0 - 1)) - bt123.2.1)) - 1)) 0) - (mn (mx (wrap64 ((wrap64 ((wrap64 (x0 - 1)) - bt123.2.1)) - 1)) 0) 2))) (mn (mx (wrap64 ((wrap64 ((wrap64 (x0 - 1)) - bt123.2.1)) - 1)) 0) 2)).bind fun bt126 => ((lead_Field.f x1 0 (wrap64 ((mx (wrap64 ((wrap64 ((wrap64 (x0 - 1)) - bt123.2.1)) - 1)) 0) - (mn (mx (wrap64 ((wrap64 ((wrap64 (x0 - 1)) - bt123.2.1)) - 1)) 0) 2)))).bind fun bt128 => (some (x121000, bt123.1, bt123.2.1, wrap64 (bt123.2.1 - 1), mn (mx (wrap64 ((wrap64 ((wrap64 (x0 - 1)) - bt123.2.1)) - 1)) 0) 2, wrap64 ((wrap64 (bt126.1)) * 2 ^ (2 - (mn (mx (wrap64 ((wrap64 ((wrap64 (x0 - 1)) - bt123.2.1)) - 1)) 0) 2)).toNat), wrap64 ((mx (wrap64 ((wrap64 ((wrap64 (x0 - 1)) - bt123.2.1)) - 1)) 0) - (mn (mx (wrap64 ((wrap64 ((wrap64 (x0 - 1)) - bt123.2.1)) - 1)) 0) 2)), bt128.1, none)))) else ((lead_Field.f x1 (wrap64 ((mx (wrap64 ((wrap64 ((wrap64 (x0 - 1)) - bt123.2.1)) - 1)) 0) - (mn (mx (wrap64 ((wrap64 ((wrap64 (x0 - 1)) - bt123.2.1)) - 1)) 0) 2))) (mn (mx (wrap64 ((wrap64 ((wrap64 (x0 - 1)) - bt123.2.1)) - 1)) 0) 2)).bind fun bt130 => ((lead_Field.f x1 0 (wrap64 ((mx (wrap64 ((wrap64 ((wrap64 (x0 - 1)) - bt123.2.1)) - 1)) 0) - (mn (mx (wrap64 ((wrap64 ((wrap64 (x0 - 1)) - bt123.2.1)) - 1)) 0) 2)))).bind fun bt132 => (some (x121000, bt123.1, bt123.2.1, wrap64 (-bt123.2.1), mn (mx (wrap64 ((wrap64 ((wrap64 (x0 - 1)) - bt123.2.1)) - 1)) 0) 2, wrap64 ((wrap64 (bt130.1)) * 2 ^ (2 - (mn (mx (wrap64 ((wrap64 ((wrap64 (x0 - 1)) - bt123.2.1)) - 1)) 0) 2)).toNat), wrap64 ((mx (wrap64 ((wrap64 ((wrap64 (x0 - 1)) - bt123.2.1)) - 1)) 0) - (mn (mx (wrap64 ((wrap64 ((wrap64 (x0 - 1)) - bt123.2.1)) - 1)) 0) 2)), bt132.1, none)))))
end
def codec_Split.f (k : Nat) (a0 : Int) (a1 : Int) : Option (Bool × Bool × Int × Int × Int × Int × Int × Int × Option Int) := (shape_Kind.f a0 a1).bind fun bt117 => (if bt117.2.isNone = true then (codec_Split.j0 k a0 a1 none (bt117.1 != 1)) else (codec_Split.j0 k a0 a1 (some (bt117.2.getD 0)) true))
set_option maxHeartbeats 8000000 in
set_option maxRecDepth 100000 in
theorem codec_Split.calls (k : Nat) (a0 : Int) (a1 : Int) (r1 : Bool) (r2 : Bool) (r3 : Int) (r4 : Int) (r5 : Int) (r6 : Int) (r7 : Int) (r8 : Int) (r9 : Option Int) (w : World) (h : codec_Split.f k a0 a1 = some (r1, r2, r3, r4, r5, r6, r7, r8, r9)) :
  Calls Try.prog 46 #[.int .i64 a0, .int .u64 a1] w fun e w' => e = .returned (.tuple #[.agg #[.bool r1, .bool r2, .int .i64 r3, .int .i64 r4, .int .i64 r5, .int .i64 r6, .int .i64 r7, .int .u64 r8], errW r9]) ∧ Below w.heap.size w w' := by
 have hu84 := Try.underlying84
 have hu25 := Try.underlying25
 have hu29 := Try.underlying29
 have HB := Aside0.mk (Below.refl w.heap.size w)
 have H : ((shape_Kind.f a0 a1).bind fun bt117 => (if bt117.2.isNone = true then (codec_Split.j0 k a0 a1 none (bt117.1 != 1)) else (codec_Split.j0 k a0 a1 (some (bt117.2.getD 0)) true))) = some (r1, r2, r3, r4, r5, r6, r7, r8, r9) := h
 clear h
 replace H := Option.bind_eq_some_iff.mp H
 obtain ⟨⟨t117, t118⟩, A30, H⟩ := H
 try dsimp -simprocs only at H
 have A3 := Aside0.mk A30
 clear A30
 have HC4 := Aside0.mk H
 clear H
 go_enter Try.func46, Try.ntmps46
 go_upto_region 2 with (first | ((with_reducible refine gD (N := 4) rfl ?_); refine bE3 4 #[.bool false, .bool false, .int .i64 0, .int .i64 0, .int .i64 0, .int .i64 0, .int .i64 0, .int .u64 0] 84 ?hr ?_; (case hr => first | (go_simp; done) | (go_simp; rfl)); intro gb116 hg w5 hbox hb; have BK116 := Aside0.mk (hbox); have GW116 := Aside0.mk ((bZ3 hg HB.out)); have GE116 := Aside0.mk ((bZ3 hg HB.out)); replace HB := Aside0.mk (bS3 HB.out hb); clear hb hbox hg) | ((with_reducible refine gX_ 45 17 rfl rfl ?_); refine goesY_ (some 17) Try.func45 #[.int .i64 a0, .int .u64 a1] ?_; (with_reducible refine (shape_Kind.calls a0 a1 t117 t118 _ A3.out).mono ?_); rintro e w' ⟨rfl, ⟨nd, rfl⟩⟩; refine ⟨_, rfl, ?_⟩; (try simp only [errW_none, errW_some])))
 (try simp only [Act.put, lS_, lZ_, lC_])
 go_cut [25] (fun v25 wc => ∃ (kq : Nat) (x25_3 : Bool), v25 = .bool x25_3 ∧ Aside0 (codec_Split.j0 kq a0 a1 t118 x25_3 = some (r1, r2, r3, r4, r5, r6, r7, r8, r9)) ∧ Aside0 (kq ≤ k) ∧ Aside0 (wc.heap[gb116]? = some (.cells #[.bool false, .bool false, .int .i64 0, .int .i64 0, .int .i64 0, .int .i64 0, .int .i64 0, .int .u64 0] 84 (0, 0))) ∧ Aside0 (Below w.heap.size w wc))
 case first =>
  have H := HC4.out
  clear HC4
  rcases t118 with _ | q119
  ·
   rw [if_pos (show (none : Option Int).isNone = true by rfl)] at H
   try simp only [Option.getD_some] at H
   try simp only [errW_none, errW_some]
   have H' := Aside0.mk H
   clear H
   go_wp2
   go_meet
   case rel => exact ⟨_, ((t117 != 1)), (by first | rfl | (simp; done) | (simp [*]; done)), H', ⟨by first | omega | exact Nat.le_refl _⟩, ⟨bK3 BK116.out⟩, ⟨bR3 HB.out⟩⟩
  ·
   rw [if_neg (show ¬ (some q119).isNone = true by simp)] at H
   try simp only [Option.getD_some] at H
   try simp only [errW_none, errW_some]
   have H' := Aside0.mk H
   clear H
   go_wp2
   go_meet
   case rel => exact ⟨_, (true), (by first | rfl | (simp; done) | (simp [*]; done)), H', ⟨by first | omega | exact Nat.le_refl _⟩, ⟨bK3 BK116.out⟩, ⟨bR3 HB.out⟩⟩
 case rest =>
  clear HC4
  try clear q1
  try clear p2
  try clear c4
  try clear q119
  obtain ⟨kq, x25_3, rfl, HA, HJ3, BK116, HB⟩ := hcut
  cases kq with
  | zero => exact absurd HA.out (by simp [codec_Split.j0])
  | succ kj3 =>
   have H := HA.out
   clear HA
   simp only [codec_Split.j0] at H
   by_cases c6 : x25_3 = true
   ·
    subst c6
    rw [if_pos rfl] at H
    simp only [Option.some.injEq, Prod.mk.injEq] at H
    obtain ⟨rfl, rfl, rfl, rfl, rfl, rfl, rfl, rfl, rfl⟩ := H
    obtain ⟨hcz7_0, hcz7_1, hcz7_2, hcz7_3, hcz7_4, hcz7_5, hcz7_6, hcz7_7, hfz7_0, hfz7_1, hfz7_2, hfz7_3, hfz7_4, hfz7_5, hfz7_6, hfz7_7⟩ := cl8 BK116.out
    go_wp2
    refine bodyPost_ret (results_ct rfl _ _ gb116 84 #[.bool false, .bool false, .int .i64 0, .int .i64 0, .int .i64 0, .int .i64 0, .int .i64 0, .int .u64 0] (0, 0) _ rfl (bQ3 BK116.out) Try.underlying84 rfl (by kernel_rfl)) rfl ?_
    exact ⟨eR3, bR3 HB.out⟩
   ·
    replace c6 := Bool.eq_false_iff.mpr c6
    subst c6
    rw [if_neg (show ¬ (false = true) by decide)] at H
    replace H := Option.bind_eq_some_iff.mp H
    obtain ⟨⟨t121, t122⟩, A80, H⟩ := H
    try dsimp -simprocs only at H
    have A8 := Aside0.mk A80
    clear A80
    have HC9 := Aside0.mk H
    clear H
    go_upto_if 35 with (first | ((with_reducible refine gD (N := 8) rfl ?_); refine bE3 8 #[.bool false, .bool false, .int .i64 0, .int .i64 0, .int .i64 0, .int .i64 0, .int .i64 0, .int .u64 0] 84 ?hr ?_; (case hr => first | (go_simp; done) | (go_simp; rfl)); intro gb120 hg w10 hbox hb; have BK120 := Aside0.mk (hbox); have GW120 := Aside0.mk ((bZ3 hg HB.out)); have GE120 := Aside0.mk ((bZ3 hg HB.out)); replace HB := Aside0.mk (bS3 HB.out hb); have NB116_120 := Aside0.mk ((bL3 hg BK116.out)); have NB120_116 := Aside0.mk ((bG3 hg BK116.out)); replace BK116 := Aside0.mk (bB3 BK116.out hb); clear hb hbox hg) | ((with_reducible refine gX_ 60 31 rfl rfl ?_); refine goesY_ (some 31) Try.func60 #[.int .i64 a0, .int .u64 a1] ?_; (with_reducible refine (shape_Rank.calls a0 a1 t121 t122 _ A8.out).mono ?_); rintro e w' ⟨rfl, ⟨nd, rfl⟩⟩; refine ⟨_, rfl, ?_⟩; (try simp only [errW_none, errW_some])))
    (try simp only [Act.put, lS_, lZ_, lC_])
    go_cut [1] (fun v1 wc => ∃ (kq : Nat) (x1_8 : Int) (x121000_8 : Bool), v1 = .int .u64 x1_8 ∧ Aside0 (codec_Split.j1 kq a0 x1_8 x121000_8 false 0 0 0 0 0 0 = some (r1, r2, r3, r4, r5, r6, r7, r8, r9)) ∧ Aside0 (kq ≤ kj3) ∧ Aside0 (wc.heap[gb116]? = some (.cells #[.bool false, .bool false, .int .i64 0, .int .i64 0, .int .i64 0, .int .i64 0, .int .i64 0, .int .u64 0] 84 (0, 0))) ∧ Aside0 (wc.heap[gb120]? = some (.cells #[.bool x121000_8, .bool false, .int .i64 0, .int .i64 0, .int .i64 0, .int .i64 0, .int .i64 0, .int .u64 0] 84 (0, 0))) ∧ Aside0 (Below w.heap.size w wc))
    case first =>
     have H := HC9.out
     clear HC9
     by_cases c11 : t121 < 0
     ·
      rw [if_pos c11] at H
      have c11b0 : decide (t121 < 0) = true := decide_eq_true c11
      clear c11
      (first | rw [c11b0] | (simp only [i64_w, i32_w]; rw [c11b0]) | skip)
      have H' := Aside0.mk H
      clear H
      have hnb12 := NB120_116.out
      have hnc12 := NB116_120.out
      obtain ⟨hcz13_0, hcz13_1, hcz13_2, hcz13_3, hcz13_4, hcz13_5, hcz13_6, hcz13_7, hfz13_0, hfz13_1, hfz13_2, hfz13_3, hfz13_4, hfz13_5, hfz13_6, hfz13_7⟩ := cl8 BK120.out
      go_wp2
      go_meet
      case rel => exact ⟨_, (IntKind.u64.wrap (-a1)), (true), (by first | rfl | (simp; done) | (simp [*]; done)), H', ⟨by have := HJ3.out; first | omega | exact Nat.le_refl _⟩, ⟨bQ3 BK116.out⟩, ⟨bQ3 BK120.out⟩, ⟨bR3 HB.out⟩⟩
     ·
      rw [if_neg c11] at H
      have c11b0 : decide (t121 < 0) = false := decide_eq_false c11
      clear c11
      (first | rw [c11b0] | (simp only [i64_w, i32_w]; rw [c11b0]) | skip)
      have H' := Aside0.mk H
      clear H
      go_wp2
      go_meet
      case rel => exact ⟨_, (a1), (false), (by first | rfl | (simp; done) | (simp [*]; done)), H', ⟨by have := HJ3.out; first | omega | exact Nat.le_refl _⟩, ⟨bK3 BK116.out⟩, ⟨bK3 BK120.out⟩, ⟨bR3 HB.out⟩⟩
    case rest =>
     clear HC9
     try clear c1
     try clear q1
     try clear p2
     try clear c4
     try clear c6
     try clear c11
     try clear c11b0
     try clear q11
     try clear c12
     try clear hcz13_0 hcz13_1 hcz13_2 hcz13_3 hcz13_4 hcz13_5 hcz13_6 hcz13_7
     try clear hcz7_0 hcz7_1 hcz7_2 hcz7_3 hcz7_4 hcz7_5 hcz7_6 hcz7_7
     try clear hfz13_0 hfz13_1 hfz13_2 hfz13_3 hfz13_4 hfz13_5 hfz13_6 hfz13_7
     try clear hfz7_0 hfz7_1 hfz7_2 hfz7_3 hfz7_4 hfz7_5 hfz7_6 hfz7_7
     try clear p2
     try clear q1
     try clear q119
     obtain ⟨kq, x1_8, x121000_8, rfl, HA, HJ8, BK116, BK120, HB⟩ := hcut
     cases kq with
     | zero => exact absurd HA.out (by simp [codec_Split.j1])
     | succ kj8 =>
      have H := HA.out
      clear HA
      simp only [codec_Split.j1] at H
      replace H := Option.bind_eq_some_iff.mp H
      obtain ⟨⟨t123, t124, t125⟩, A140, H⟩ := H
      try dsimp -simprocs only at H
      have A14 := Aside0.mk A140
      clear A140
      by_cases c15 : t123 = true
      ·
       subst c15
       rw [if_pos rfl] at H
       obtain ⟨ji16, hji16⟩ : ∃ j_ : Int, (mx (wrap64 ((wrap64 ((wrap64 (a0 - 1)) - t124)) - 1)) 0) = j_ := ⟨_, rfl⟩
       replace H : ((lead_Field.f x1_8 (wrap64 ((ji16) - (mn (ji16) 2))) (mn (ji16) 2)).bind fun bt126 => ((lead_Field.f x1_8 0 (wrap64 ((ji16) - (mn (ji16) 2)))).bind fun bt128 => (some (x121000_8, true, t124, wrap64 (t124 - 1), mn (ji16) 2, wrap64 ((wrap64 (bt126.1)) * 2 ^ (2 - (mn (ji16) 2)).toNat), wrap64 ((ji16) - (mn (ji16) 2)), bt128.1, none)))) = some (r1, r2, r3, r4, r5, r6, r7, r8, r9) := by first | (rw [hji16] at H; exact H) | (simp only [hji16] at H ⊢; exact H)
       (try rw [hji16] at A14)
       have hji16_ : (if (wrap64 ((wrap64 ((wrap64 (a0 - 1)) - t124)) - 1)) < 0 then 0 else (wrap64 ((wrap64 ((wrap64 (a0 - 1)) - t124)) - 1))) = ji16 := hji16
       obtain ⟨ji17, hji17⟩ : ∃ j_ : Int, (mn (ji16) 2) = j_ := ⟨_, rfl⟩
       replace H : ((lead_Field.f x1_8 (wrap64 ((ji16) - (ji17))) (ji17)).bind fun bt126 => ((lead_Field.f x1_8 0 (wrap64 ((ji16) - (ji17)))).bind fun bt128 => (some (x121000_8, true, t124, wrap64 (t124 - 1), ji17, wrap64 ((wrap64 (bt126.1)) * 2 ^ (2 - (ji17)).toNat), wrap64 ((ji16) - (ji17)), bt128.1, none)))) = some (r1, r2, r3, r4, r5, r6, r7, r8, r9) := by first | (rw [hji17] at H; exact H) | (simp only [hji17] at H ⊢; exact H)
       (try rw [hji17] at A14)
       have hji17_ : (if 2 < (ji16) then 2 else (ji16)) = ji17 := hji17
       replace H := Option.bind_eq_some_iff.mp H
       obtain ⟨⟨t126, t127⟩, A180, H⟩ := H
       try dsimp -simprocs only at H
       have A18 := Aside0.mk A180
       clear A180
       replace H := Option.bind_eq_some_iff.mp H
       obtain ⟨⟨t128, t129⟩, A190, H⟩ := H
       try dsimp -simprocs only at H
       have A19 := Aside0.mk A190
       clear A190
       simp only [Option.some.injEq, Prod.mk.injEq] at H
       obtain ⟨rfl, rfl, rfl, rfl, rfl, rfl, rfl, rfl, rfl⟩ := H
       go_wp2_with (first | ((with_reducible refine gate_dst (N := 97) rfl ?_); refine load_store_ (w0 := w) 97 gb120 gb116 #[.bool x121000_8, .bool true, .int .i64 t124, .int .i64 (wrap64 (t124 - 1)), .int .i64 ji17, .int .i64 (wrap64 ((wrap64 (t126)) * 2 ^ (2 - (ji17)).toNat)), .int .i64 (wrap64 ((ji16) - (ji17))), .int .u64 t128] #[.bool false, .bool false, .int .i64 0, .int .i64 0, .int .i64 0, .int .i64 0, .int .i64 0, .int .u64 0] 84 _ (by repeat (first | (with_reducible refine bN ?_ _) | (with_reducible refine bD ?_) | (with_reducible refine blk_drewN ?_ _) | (with_reducible refine blk_drew ?_) | (with_reducible apply blk_set) | (with_reducible exact BK120.out))) (by repeat (first | (with_reducible refine bN ?_ _) | (with_reducible refine bD ?_) | (with_reducible refine blk_drewN ?_ _) | (with_reducible refine blk_drew ?_) | (with_reducible refine blk_far ?_ NB116_120.out _) | (with_reducible exact BK116.out))) (bR3 HB.out) GE116.out Try.underlying84 (by kernel_rfl) ?_; intro wz kz_ HZ_) | ((with_reducible refine gX_ 61 44 rfl rfl ?_); refine goesY_ (some 44) Try.func61 #[.int .u64 x1_8, .int .i64 (wrap64 (a0 - 1))] ?_; (with_reducible refine (lead_Run.calls kj8 x1_8 (wrap64 (a0 - 1)) true t124 t125 _ A14.out).mono ?_); rintro e w20 ⟨rfl, hb⟩; refine ⟨_, rfl, ?_⟩; replace BK116 := Aside0.mk (bB3 BK116.out hb); replace BK120 := Aside0.mk (bB3 BK120.out hb); replace HB := Aside0.mk (bS3 HB.out hb); (try clear hb); (try clear hk); (try simp only [errW_none, errW_some]); have hnb21 := NB120_116.out; have hnc21 := NB116_120.out; obtain ⟨hcz22_0, hcz22_1, hcz22_2, hcz22_3, hcz22_4, hcz22_5, hcz22_6, hcz22_7, hfz22_0, hfz22_1, hfz22_2, hfz22_3, hfz22_4, hfz22_5, hfz22_6, hfz22_7⟩ := cl8 BK120.out) | ((with_reducible refine gC (f := 62) rfl ?_); (with_reducible refine gD (N := 78) rfl ?_); refine goesL_ (some 78) rfl rfl Try.func62 (by kernel_rfl) rfl #[.int .u64 x1_8, .int .i64 (wrap64 ((ji16) - (ji17))), .int .i64 ji17] rfl (by (try simp only [List.map_toArray, List.map_cons, List.map_nil]); first | done | (simp only [hji16, hji17]; rfl) | rfl | (simp only [List.length_drop, List.length_take]; rfl)) ?_; (with_reducible refine (lead_Field.calls x1_8 (wrap64 ((ji16) - (ji17))) ji17 t126 t127 _ A18.out).mono ?_); rintro e w' ⟨rfl, ⟨nd, rfl⟩⟩; refine ⟨_, rfl, ?_⟩; (try simp only [errW_none, errW_some])) | ((with_reducible refine gC (f := 62) rfl ?_); (with_reducible refine gD (N := 93) rfl ?_); refine goesL_ (some 93) rfl rfl Try.func62 (by kernel_rfl) rfl #[.int .u64 x1_8, .int .i64 0, .int .i64 (wrap64 ((ji16) - (ji17)))] rfl (by (try simp only [List.map_toArray, List.map_cons, List.map_nil]); first | done | (simp only [hji16, hji17]; rfl) | rfl | (simp only [List.length_drop, List.length_take]; rfl)) ?_; (with_reducible refine (lead_Field.calls x1_8 0 (wrap64 ((ji16) - (ji17))) t128 t129 _ A19.out).mono ?_); rintro e w' ⟨rfl, ⟨nd, rfl⟩⟩; refine ⟨_, rfl, ?_⟩; (try simp only [errW_none, errW_some]); obtain ⟨hcz23_0, hcz23_1, hcz23_2, hcz23_3, hcz23_4, hcz23_5, hcz23_6, hcz23_7, hfz23_0, hfz23_1, hfz23_2, hfz23_3, hfz23_4, hfz23_5, hfz23_6, hfz23_7⟩ := cl8 BK116.out))
       refine bodyPost_ret (results_ct rfl _ _ gb116 84 #[.bool x121000_8, .bool true, .int .i64 t124, .int .i64 (wrap64 (t124 - 1)), .int .i64 ji17, .int .i64 (wrap64 ((wrap64 (t126)) * 2 ^ (2 - (ji17)).toNat)), .int .i64 (wrap64 ((ji16) - (ji17))), .int .u64 t128] (0, 0) _ rfl kz_ Try.underlying84 rfl (by kernel_rfl)) rfl ?_
       exact ⟨by first | rfl | (simp [errW_none, errW_some] <;> rfl) | (simp only [← hji16, ← hji17]; first | rfl | (simp [errW_none, errW_some] <;> rfl)) | (simp [*, errW_none, errW_some] <;> rfl), HZ_⟩
      ·
       replace c15 := Bool.eq_false_iff.mpr c15
       subst c15
       rw [if_neg (show ¬ (false = true) by decide)] at H
       obtain ⟨ji24, hji24⟩ : ∃ j_ : Int, (mx (wrap64 ((wrap64 ((wrap64 (a0 - 1)) - t124)) - 1)) 0) = j_ := ⟨_, rfl⟩
       replace H : ((lead_Field.f x1_8 (wrap64 ((ji24) - (mn (ji24) 2))) (mn (ji24) 2)).bind fun bt130 => ((lead_Field.f x1_8 0 (wrap64 ((ji24) - (mn (ji24) 2)))).bind fun bt132 => (some (x121000_8, false, t124, wrap64 (-t124), mn (ji24) 2, wrap64 ((wrap64 (bt130.1)) * 2 ^ (2 - (mn (ji24) 2)).toNat), wrap64 ((ji24) - (mn (ji24) 2)), bt132.1, none)))) = some (r1, r2, r3, r4, r5, r6, r7, r8, r9) := by first | (rw [hji24] at H; exact H) | (simp only [hji24] at H ⊢; exact H)
       (try rw [hji24] at A14)
       have hji24_ : (if (wrap64 ((wrap64 ((wrap64 (a0 - 1)) - t124)) - 1)) < 0 then 0 else (wrap64 ((wrap64 ((wrap64 (a0 - 1)) - t124)) - 1))) = ji24 := hji24
       obtain ⟨ji25, hji25⟩ : ∃ j_ : Int, (mn (ji24) 2) = j_ := ⟨_, rfl⟩
       replace H : ((lead_Field.f x1_8 (wrap64 ((ji24) - (ji25))) (ji25)).bind fun bt130 => ((lead_Field.f x1_8 0 (wrap64 ((ji24) - (ji25)))).bind fun bt132 => (some (x121000_8, false, t124, wrap64 (-t124), ji25, wrap64 ((wrap64 (bt130.1)) * 2 ^ (2 - (ji25)).toNat), wrap64 ((ji24) - (ji25)), bt132.1, none)))) = some (r1, r2, r3, r4, r5, r6, r7, r8, r9) := by first | (rw [hji25] at H; exact H) | (simp only [hji25] at H ⊢; exact H)
       (try rw [hji25] at A14)
       have hji25_ : (if 2 < (ji24) then 2 else (ji24)) = ji25 := hji25
       replace H := Option.bind_eq_some_iff.mp H
       obtain ⟨⟨t130, t131⟩, A260, H⟩ := H
       try dsimp -simprocs only at H
       have A26 := Aside0.mk A260
       clear A260
       replace H := Option.bind_eq_some_iff.mp H
       obtain ⟨⟨t132, t133⟩, A270, H⟩ := H
       try dsimp -simprocs only at H
       have A27 := Aside0.mk A270
       clear A270
       simp only [Option.some.injEq, Prod.mk.injEq] at H
       obtain ⟨rfl, rfl, rfl, rfl, rfl, rfl, rfl, rfl, rfl⟩ := H
       go_wp2_with (first | ((with_reducible refine gate_dst (N := 97) rfl ?_); refine load_store_ (w0 := w) 97 gb120 gb116 #[.bool x121000_8, .bool false, .int .i64 t124, .int .i64 (wrap64 (-t124)), .int .i64 ji25, .int .i64 (wrap64 ((wrap64 (t130)) * 2 ^ (2 - (ji25)).toNat)), .int .i64 (wrap64 ((ji24) - (ji25))), .int .u64 t132] #[.bool false, .bool false, .int .i64 0, .int .i64 0, .int .i64 0, .int .i64 0, .int .i64 0, .int .u64 0] 84 _ (by repeat (first | (with_reducible refine bN ?_ _) | (with_reducible refine bD ?_) | (with_reducible refine blk_drewN ?_ _) | (with_reducible refine blk_drew ?_) | (with_reducible apply blk_set) | (with_reducible exact BK120.out))) (by repeat (first | (with_reducible refine bN ?_ _) | (with_reducible refine bD ?_) | (with_reducible refine blk_drewN ?_ _) | (with_reducible refine blk_drew ?_) | (with_reducible refine blk_far ?_ NB116_120.out _) | (with_reducible exact BK116.out))) (bR3 HB.out) GE116.out Try.underlying84 (by kernel_rfl) ?_; intro wz kz_ HZ_) | ((with_reducible refine gX_ 61 44 rfl rfl ?_); refine goesY_ (some 44) Try.func61 #[.int .u64 x1_8, .int .i64 (wrap64 (a0 - 1))] ?_; (with_reducible refine (lead_Run.calls kj8 x1_8 (wrap64 (a0 - 1)) false t124 t125 _ A14.out).mono ?_); rintro e w28 ⟨rfl, hb⟩; refine ⟨_, rfl, ?_⟩; replace BK116 := Aside0.mk (bB3 BK116.out hb); replace BK120 := Aside0.mk (bB3 BK120.out hb); replace HB := Aside0.mk (bS3 HB.out hb); (try clear hb); (try clear hk); (try simp only [errW_none, errW_some]); have hnb29 := NB120_116.out; have hnc29 := NB116_120.out; obtain ⟨hcz30_0, hcz30_1, hcz30_2, hcz30_3, hcz30_4, hcz30_5, hcz30_6, hcz30_7, hfz30_0, hfz30_1, hfz30_2, hfz30_3, hfz30_4, hfz30_5, hfz30_6, hfz30_7⟩ := cl8 BK120.out) | ((with_reducible refine gC (f := 62) rfl ?_); (with_reducible refine gD (N := 78) rfl ?_); refine goesL_ (some 78) rfl rfl Try.func62 (by kernel_rfl) rfl #[.int .u64 x1_8, .int .i64 (wrap64 ((ji24) - (ji25))), .int .i64 ji25] rfl (by (try simp only [List.map_toArray, List.map_cons, List.map_nil]); first | done | (simp only [hji24, hji25]; rfl) | rfl | (simp only [List.length_drop, List.length_take]; rfl)) ?_; (with_reducible refine (lead_Field.calls x1_8 (wrap64 ((ji24) - (ji25))) ji25 t130 t131 _ A26.out).mono ?_); rintro e w' ⟨rfl, ⟨nd, rfl⟩⟩; refine ⟨_, rfl, ?_⟩; (try simp only [errW_none, errW_some])) | ((with_reducible refine gC (f := 62) rfl ?_); (with_reducible refine gD (N := 93) rfl ?_); refine goesL_ (some 93) rfl rfl Try.func62 (by kernel_rfl) rfl #[.int .u64 x1_8, .int .i64 0, .int .i64 (wrap64 ((ji24) - (ji25)))] rfl (by (try simp only [List.map_toArray, List.map_cons, List.map_nil]); first | done | (simp only [hji24, hji25]; rfl) | rfl | (simp only [List.length_drop, List.length_take]; rfl)) ?_; (with_reducible refine (lead_Field.calls x1_8 0 (wrap64 ((ji24) - (ji25))) t132 t133 _ A27.out).mono ?_); rintro e w' ⟨rfl, ⟨nd, rfl⟩⟩; refine ⟨_, rfl, ?_⟩; (try simp only [errW_none, errW_some]); obtain ⟨hcz31_0, hcz31_1, hcz31_2, hcz31_3, hcz31_4, hcz31_5, hcz31_6, hcz31_7, hfz31_0, hfz31_1, hfz31_2, hfz31_3, hfz31_4, hfz31_5, hfz31_6, hfz31_7⟩ := cl8 BK116.out))
       refine bodyPost_ret (results_ct rfl _ _ gb116 84 #[.bool x121000_8, .bool false, .int .i64 t124, .int .i64 (wrap64 (-t124)), .int .i64 ji25, .int .i64 (wrap64 ((wrap64 (t130)) * 2 ^ (2 - (ji25)).toNat)), .int .i64 (wrap64 ((ji24) - (ji25))), .int .u64 t132] (0, 0) _ rfl kz_ Try.underlying84 rfl (by kernel_rfl)) rfl ?_
       exact ⟨by first | rfl | (simp [errW_none, errW_some] <;> rfl) | (simp only [← hji24, ← hji25]; first | rfl | (simp [errW_none, errW_some] <;> rfl)) | (simp [*, errW_none, errW_some] <;> rfl), HZ_⟩
def codec_Decode.f (k : Nat) (a0 : Int) (a1 : Int) : Option (Int × Bool × Int × Int × Option Int) := (shape_Kind.f a0 a1).bind fun bt135 => (if bt135.2.isNone = true then (if bt135.1 = 1 then ((codec_Split.f k a0 a1).bind fun bt138 => (if 0 ≤ (wrap64 (63 - bt138.2.2.2.2.2.2.1)) then (some (bt135.1, bt138.1, wrap64 ((wrap64 (4 * bt138.2.2.2.1)) + bt138.2.2.2.2.2.1), Go.bits .or .u64 9223372036854775808 (shl .u64 bt138.2.2.2.2.2.2.2.1 (wrap64 (63 - bt138.2.2.2.2.2.2.1))), none)) else (none))) else (some (bt135.1, false, 0, 0, none))) else (some (bt135.1, false, 0, 0, some (bt135.2.getD 0))))
def codec_Decode.T5 : Bool × List (List Nat × List Nat) := (true, [([], []), ([], []), ([1], [1]), ([], []), ([3], [3]), ([4], [4]), ([], []), ([6], [6]), ([5, 7], [5, 7]), ([], []), ([9], [9]), ([], []), ([11], [11]), ([12], [12]), ([10, 13], [10, 13]), ([14], [14]), ([0, 2, 8, 15], [0, 2, 8, 15]), ([16, 0, 1, 2, 3, 4, 5, 6, 7, 8, 9, 10, 11, 12, 13, 14, 15, 16], [16]), ([17, 0, 1, 2, 3, 4, 5, 6, 7, 8, 9, 10, 11, 12, 13, 14, 15, 16, 17], [])])
def codec_Decode.B5 : List Nat := [0, 0, 2, 0, 8, 24, 0, 64, 248, 0, 512, 0, 2048, 6144, 15872, 32256, 65535, 131071, 262143]
theorem codec_Decode.tab5 : rtab .any (opsOf Try.f27 5) = codec_Decode.T5 := by kernel_rfl
theorem codec_Decode.bits5 : waitsOk codec_Decode.T5.2 codec_Decode.B5 = true := by kernel_rfl
set_option maxHeartbeats 8000000 in
set_option maxRecDepth 100000 in
theorem codec_Decode.calls (k : Nat) (a0 : Int) (a1 : Int) (r1 : Int) (r2 : Bool) (r3 : Int) (r4 : Int) (r5 : Option Int) (w : World) (h : codec_Decode.f k a0 a1 = some (r1, r2, r3, r4, r5)) :
  Calls Try.prog 27 #[.int .i64 a0, .int .u64 a1] w fun e w' => e = .returned (.tuple #[.agg #[.int .i64 r1, .bool r2, .int .i64 r3, .int .u64 r4], errW r5]) ∧ Below w.heap.size w w' := by
 have hu35 := Try.underlying35
 have hu84 := Try.underlying84
 have hu25 := Try.underlying25
 have hu29 := Try.underlying29
 have HB := Aside0.mk (Below.refl w.heap.size w)
 have H : ((shape_Kind.f a0 a1).bind fun bt135 => (if bt135.2.isNone = true then (if bt135.1 = 1 then ((codec_Split.f k a0 a1).bind fun bt138 => (if 0 ≤ (wrap64 (63 - bt138.2.2.2.2.2.2.1)) then (some (bt135.1, bt138.1, wrap64 ((wrap64 (4 * bt138.2.2.2.1)) + bt138.2.2.2.2.2.1), Go.bits .or .u64 9223372036854775808 (shl .u64 bt138.2.2.2.2.2.2.2.1 (wrap64 (63 - bt138.2.2.2.2.2.2.1))), none)) else (none))) else (some (bt135.1, false, 0, 0, none))) else (some (bt135.1, false, 0, 0, some (bt135.2.getD 0))))) = some (r1, r2, r3, r4, r5) := h
 clear h
 replace H := Option.bind_eq_some_iff.mp H
 obtain ⟨⟨t135, t136⟩, A30, H⟩ := H
 try dsimp -simprocs only at H
 have A3 := Aside0.mk A30
 clear A30
 rcases t136 with _ | q137
 ·
  rw [if_pos (show (none : Option Int).isNone = true by rfl)] at H
  try simp only [Option.getD_some] at H
  try simp only [errW_none, errW_some]
  by_cases c4 : t135 = 1
  ·
   rw [if_pos c4] at H
   have c4b0 : (t135 == 1) = true := beq_iff_eq.mpr c4
   have c4b1 : (t135 != 1) = false := bne_eq_false_iff_eq.mpr c4
   clear c4
   replace H := Option.bind_eq_some_iff.mp H
   obtain ⟨⟨t138, t139, t140, t141, t142, t143, t144, t145, t146⟩, A50, H⟩ := H
   try dsimp -simprocs only at H
   have A5 := Aside0.mk A50
   clear A50
   obtain ⟨ji6, hji6⟩ : ∃ j_ : Int, (wrap64 (63 - t144)) = j_ := ⟨_, rfl⟩
   replace H : (if 0 ≤ (ji6) then (some (t135, t138, wrap64 ((wrap64 (4 * t141)) + t143), Go.bits .or .u64 9223372036854775808 (shl .u64 t145 (ji6)), none)) else (none)) = some (r1, r2, r3, r4, r5) := by first | (rw [hji6] at H; exact H) | (simp only [hji6] at H ⊢; exact H)
   (try rw [hji6] at A3)
   (try rw [hji6] at A5)
   have hji6w : (IntKind.i64.wrap (63 - t144)) = ji6 := (i64_w _).trans hji6
   by_cases c7 : 0 ≤ (ji6)
   ·
    rw [if_pos c7] at H
    have c7b0 := eq_true c7
    have c7b1 : decide (0 ≤ (ji6)) = true := decide_eq_true c7
    clear c7
    obtain ⟨ji8, hji8⟩ : ∃ j_ : Int, (shl .u64 t145 (ji6)) = j_ := ⟨_, rfl⟩
    replace H : (some (t135, t138, wrap64 ((wrap64 (4 * t141)) + t143), Go.bits .or .u64 9223372036854775808 (ji8), none)) = some (r1, r2, r3, r4, r5) := by first | (rw [hji8] at H; exact H) | (simp only [hji8] at H ⊢; exact H)
    (try rw [hji8] at A3)
    (try rw [hji8] at A5)
    have hji8_ : (IntKind.u64.wrap (t145 * 2 ^ min (ji6).toNat 64)) = ji8 := hji8
    have hji8z : (ji6) ≤ 64 → (IntKind.u64.wrap (t145 * 2 ^ (ji6).toNat)) = ji8 := shl_small hji8
    simp only [Option.some.injEq, Prod.mk.injEq] at H
    obtain ⟨rfl, rfl, rfl, rfl, rfl⟩ := H
    go_enter Try.func27, Try.ntmps27
    try go_wp2_with (first | ((with_reducible refine gD (N := 4) rfl ?_); refine bE3 4 #[.int .i64 0, .bool false, .int .i64 0, .int .u64 0] 35 ?hr ?_; (case hr => first | (go_simp; done) | (go_simp; rfl)); intro gb134 hg w9 hbox hb; have BK134 := Aside0.mk (hbox); have GW134 := Aside0.mk ((bZ3 hg HB.out)); have GE134 := Aside0.mk ((bZ3 hg HB.out)); replace HB := Aside0.mk (bS3 HB.out hb); clear hb hbox hg) | ((with_reducible refine gX_ 45 13 rfl rfl ?_); refine goesY_ (some 13) Try.func45 #[.int .i64 a0, .int .u64 a1] ?_; (with_reducible refine (shape_Kind.calls a0 a1 t135 none _ A3.out).mono ?_); rintro e w' ⟨rfl, ⟨nd, rfl⟩⟩; refine ⟨_, rfl, ?_⟩; (try simp only [errW_none, errW_some]); (try (rw [drewN_self w9]; generalize hq_ : World.drewN w9 _ = w9; have n0_ : Aside0 (w9.heap[gb134]? = some (.cells #[.int .i64 0, .bool false, .int .i64 0, .int .u64 0] 35 (0, 0))) := ⟨by rw [← hq_]; exact (bK3 BK134.out)⟩; have n1_ : Aside0 (Below w.heap.size w w9) := ⟨by rw [← hq_]; exact (bR3 HB.out)⟩; clear BK134 HB hq_; have BK134 := n0_; have HB := n1_; clear n0_ n1_))) | ((with_reducible refine gX_ 46 28 rfl rfl ?_); refine goesY_ (some 28) Try.func46 #[.int .i64 a0, .int .u64 a1] ?_; (with_reducible refine (codec_Split.calls k a0 a1 t138 t139 t140 t141 t142 t143 t144 t145 t146 _ A5.out).mono ?_); rintro e w10 ⟨rfl, hb⟩; refine ⟨_, rfl, ?_⟩; replace BK134 := Aside0.mk (bB3 BK134.out hb); replace HB := Aside0.mk (bS3 HB.out hb); (try clear hb); (try clear hk); (try simp only [errW_none, errW_some])) | ((with_reducible refine gD (N := 8) rfl ?_); refine bE3 8 #[.bool false, .bool false, .int .i64 0, .int .i64 0, .int .i64 0, .int .i64 0, .int .i64 0, .int .u64 0] 84 ?hr ?_; (case hr => first | (go_simp; done) | (go_simp; rfl)); intro gb147 hg w11 hbox hb; have BK147 := Aside0.mk (hbox); have GW147 := Aside0.mk ((bZ3 hg HB.out)); have GE147 := Aside0.mk ((bZ3 hg HB.out)); replace HB := Aside0.mk (bS3 HB.out hb); have NB134_147 := Aside0.mk ((bL3 hg BK134.out)); have NB147_134 := Aside0.mk ((bG3 hg BK134.out)); replace BK134 := Aside0.mk (bB3 BK134.out hb); clear hb hbox hg; have hnb12 := NB147_134.out; have hnc12 := NB134_147.out; obtain ⟨hcz13_0, hcz13_1, hcz13_2, hcz13_3, hcz13_4, hcz13_5, hcz13_6, hcz13_7, hfz13_0, hfz13_1, hfz13_2, hfz13_3, hfz13_4, hfz13_5, hfz13_6, hfz13_7⟩ := cl8 BK147.out))
    have n0_ : Aside0 (((((((((w11.setCell ⟨gb147, 0, none⟩ (.bool t138)).setCell ⟨gb147, 1, none⟩ (.bool t139)).setCell ⟨gb147, 2, none⟩ (.int .i64 t140)).setCell ⟨gb147, 3, none⟩ (.int .i64 t141)).setCell ⟨gb147, 4, none⟩ (.int .i64 t142)).setCell ⟨gb147, 5, none⟩ (.int .i64 t143)).setCell ⟨gb147, 6, none⟩ (.int .i64 t144)).setCell ⟨gb147, 7, none⟩ (.int .u64 t145)).heap[gb134]? = some (.cells #[.int .i64 0, .bool false, .int .i64 0, .int .u64 0] 35 (0, 0))) := ⟨bQ3 BK134.out⟩
    have n1_ : Aside0 (((((((((w11.setCell ⟨gb147, 0, none⟩ (.bool t138)).setCell ⟨gb147, 1, none⟩ (.bool t139)).setCell ⟨gb147, 2, none⟩ (.int .i64 t140)).setCell ⟨gb147, 3, none⟩ (.int .i64 t141)).setCell ⟨gb147, 4, none⟩ (.int .i64 t142)).setCell ⟨gb147, 5, none⟩ (.int .i64 t143)).setCell ⟨gb147, 6, none⟩ (.int .i64 t144)).setCell ⟨gb147, 7, none⟩ (.int .u64 t145)).heap[gb147]? = some (.cells #[.bool t138, .bool t139, .int .i64 t140, .int .i64 t141, .int .i64 t142, .int .i64 t143, .int .i64 t144, .int .u64 t145] 84 (0, 0))) := ⟨bQ3 BK147.out⟩
    have n2_ : Aside0 (Below w.heap.size w ((((((((w11.setCell ⟨gb147, 0, none⟩ (.bool t138)).setCell ⟨gb147, 1, none⟩ (.bool t139)).setCell ⟨gb147, 2, none⟩ (.int .i64 t140)).setCell ⟨gb147, 3, none⟩ (.int .i64 t141)).setCell ⟨gb147, 4, none⟩ (.int .i64 t142)).setCell ⟨gb147, 5, none⟩ (.int .i64 t143)).setCell ⟨gb147, 6, none⟩ (.int .i64 t144)).setCell ⟨gb147, 7, none⟩ (.int .u64 t145))) := ⟨bR3 HB.out⟩
    (try clear BK134)
    (try clear BK147)
    (try clear HB)
    generalize ((((((((w11.setCell ⟨gb147, 0, none⟩ (.bool t138)).setCell ⟨gb147, 1, none⟩ (.bool t139)).setCell ⟨gb147, 2, none⟩ (.int .i64 t140)).setCell ⟨gb147, 3, none⟩ (.int .i64 t141)).setCell ⟨gb147, 4, none⟩ (.int .i64 t142)).setCell ⟨gb147, 5, none⟩ (.int .i64 t143)).setCell ⟨gb147, 6, none⟩ (.int .i64 t144)).setCell ⟨gb147, 7, none⟩ (.int .u64 t145)) = w14 at n0_ n1_ n2_ ⊢
    have BK134 := n0_
    have BK147 := n1_
    have HB := n2_
    clear n0_ n1_ n2_
    have n0_ := Aside0.mk (bD BK134.out)
    have n1_ := Aside0.mk (bD BK147.out)
    have n2_ := Aside0.mk (p1 HB.out)
    clear BK134
    clear BK147
    clear HB
    have BK134 := n0_
    have BK147 := n1_
    have HB := n2_
    clear n0_ n1_ n2_
    refine start_ (n := 19) (S := fun w' => w'.cell? ⟨gb147, 0, none⟩ = some (.bool t138) ∧ w'.cell? ⟨gb147, 1, none⟩ = some (.bool t139) ∧ w'.cell? ⟨gb147, 2, none⟩ = some (.int .i64 t140) ∧ w'.cell? ⟨gb147, 3, none⟩ = some (.int .i64 t141) ∧ w'.cell? ⟨gb147, 4, none⟩ = some (.int .i64 t142) ∧ w'.cell? ⟨gb147, 5, none⟩ = some (.int .i64 t143) ∧ w'.cell? ⟨gb147, 6, none⟩ = some (.int .i64 t144) ∧ w'.cell? ⟨gb147, 7, none⟩ = some (.int .u64 t145)) (ds := []) #[false, false, false, false, false, false, false, false, false, false, false, false, false, false, false, false, false, false, false] (by kernel_rfl) rfl rfl ⟨(blk_cell BK147.out 0).trans rfl, (blk_cell BK147.out 1).trans rfl, (blk_cell BK147.out 2).trans rfl, (blk_cell BK147.out 3).trans rfl, (blk_cell BK147.out 4).trans rfl, (blk_cell BK147.out 5).trans rfl, (blk_cell BK147.out 6).trans rfl, (blk_cell BK147.out 7).trans rfl⟩ (fun hHeld => ?_); refine with_tabW codec_Decode.tab5 codec_Decode.bits5 (fun HT_ HW_ => ?_)
    generalize w14.drew = w15 at BK134 BK147 HB hHeld ⊢
    refine pure_ (i := 0) (N := some 31) (v := ?_) (a' := ?_) #[true, false, false, false, false, false, false, false, false, false, false, false, false, false, false, false, false, false, false] rfl rfl (any_of HT_.out (by kernel_rfl)) (fun _ _ _ h => h) (Or.inl ⟨by rfl, ?_⟩) ?_ ?_
    rotate_left
    ·
     intro w'
     go_simp
     with_reducible rfl
    rotate_left
    ·
     simp only [Act.put, lS_, lZ_, lC_, i64_w, i32_w]
     rfl
    refine pure_ (i := 1) (N := some 32) (v := ?_) (a' := ?_) #[true, true, false, false, false, false, false, false, false, false, false, false, false, false, false, false, false, false, false] rfl rfl (any_of HT_.out (by kernel_rfl)) (fun _ _ _ h => h) (Or.inl ⟨by rfl, ?_⟩) ?_ ?_
    rotate_left
    ·
     intro w'
     go_simp
     with_reducible rfl
    rotate_left
    ·
     simp only [Act.put, lS_, lZ_, lC_, i64_w, i32_w]
     rfl
    refine pure_ (i := 3) (N := some 34) (v := ?_) (a' := ?_) #[true, true, false, true, false, false, false, false, false, false, false, false, false, false, false, false, false, false, false] rfl rfl (any_of HT_.out (by kernel_rfl)) (fun _ _ _ h => h) (Or.inl ⟨by rfl, ?_⟩) ?_ ?_
    rotate_left
    ·
     intro w'
     go_simp
     with_reducible rfl
    rotate_left
    ·
     simp only [Act.put, lS_, lZ_, lC_, i64_w, i32_w]
     rfl
    refine pure_ (i := 6) (N := some 37) (v := ?_) (a' := ?_) #[true, true, false, true, false, false, true, false, false, false, false, false, false, false, false, false, false, false, false] rfl rfl (any_of HT_.out (by kernel_rfl)) (fun _ _ _ h => h) (Or.inl ⟨by rfl, ?_⟩) ?_ ?_
    rotate_left
    ·
     intro w'
     go_simp
     with_reducible rfl
    rotate_left
    ·
     simp only [Act.put, lS_, lZ_, lC_, i64_w, i32_w]
     rfl
    refine pure_ (i := 9) (N := some 40) (v := ?_) (a' := ?_) #[true, true, false, true, false, false, true, false, false, true, false, false, false, false, false, false, false, false, false] rfl rfl (any_of HT_.out (by kernel_rfl)) (fun _ _ _ h => h) (Or.inl ⟨by rfl, ?_⟩) ?_ ?_
    rotate_left
    ·
     intro w'
     go_simp
     with_reducible rfl
    rotate_left
    ·
     simp only [Act.put, lS_, lZ_, lC_, i64_w, i32_w]
     rfl
    refine pure_ (i := 11) (N := some 42) (v := ?_) (a' := ?_) #[true, true, false, true, false, false, true, false, false, true, false, true, false, false, false, false, false, false, false] rfl rfl (any_of HT_.out (by kernel_rfl)) (fun _ _ _ h => h) (Or.inl ⟨by rfl, ?_⟩) ?_ ?_
    rotate_left
    ·
     intro w'
     go_simp
     with_reducible rfl
    rotate_left
    ·
     simp only [Act.put, lS_, lZ_, lC_, i64_w, i32_w]
     rfl
    refine take_ (i := 2) (N := some 33) (v := ?_) (a' := ?_) #[true, true, true, true, false, false, true, false, false, true, false, true, false, false, false, false, false, false, false] rfl rfl (take_ofW HT_.out HW_.out (by kernel_rfl)) (fun _ _ _ h => h) (Or.inl ⟨by rfl, ?_⟩) hHeld ?_ ?_
    rotate_left
    ·
     rintro w' ⟨s0, s1, s2, s3, s4, s5, s6, s7⟩
     go_simp
     with_reducible rfl
    rotate_left
    ·
     simp only [Act.put, lS_, lZ_, lC_, i64_w, i32_w]
     rfl
    refine take_ (i := 4) (N := some 35) (v := ?_) (a' := ?_) #[true, true, true, true, true, false, true, false, false, true, false, true, false, false, false, false, false, false, false] rfl rfl (take_ofW HT_.out HW_.out (by kernel_rfl)) (fun _ _ _ h => h) (Or.inl ⟨by rfl, ?_⟩) hHeld ?_ ?_
    rotate_left
    ·
     rintro w' ⟨s0, s1, s2, s3, s4, s5, s6, s7⟩
     go_simp
     with_reducible rfl
    rotate_left
    ·
     simp only [Act.put, lS_, lZ_, lC_, i64_w, i32_w]
     rfl
    refine pure_ (i := 5) (N := some 36) (v := ?_) (a' := ?_) #[true, true, true, true, true, true, true, false, false, true, false, true, false, false, false, false, false, false, false] rfl rfl (any_of HT_.out (by kernel_rfl)) (fun _ _ _ h => h) (Or.inl ⟨by rfl, ?_⟩) ?_ ?_
    rotate_left
    ·
     intro w'
     go_simp
     with_reducible rfl
    rotate_left
    ·
     simp only [Act.put, lS_, lZ_, lC_, i64_w, i32_w]
     rfl
    refine take_ (i := 7) (N := some 38) (v := ?_) (a' := ?_) #[true, true, true, true, true, true, true, true, false, true, false, true, false, false, false, false, false, false, false] rfl rfl (take_ofW HT_.out HW_.out (by kernel_rfl)) (fun _ _ _ h => h) (Or.inl ⟨by rfl, ?_⟩) hHeld ?_ ?_
    rotate_left
    ·
     rintro w' ⟨s0, s1, s2, s3, s4, s5, s6, s7⟩
     go_simp
     with_reducible rfl
    rotate_left
    ·
     simp only [Act.put, lS_, lZ_, lC_, i64_w, i32_w]
     rfl
    refine pure_ (i := 8) (N := some 39) (v := ?_) (a' := ?_) #[true, true, true, true, true, true, true, true, true, true, false, true, false, false, false, false, false, false, false] rfl rfl (any_of HT_.out (by kernel_rfl)) (fun _ _ _ h => h) (Or.inl ⟨by rfl, ?_⟩) ?_ ?_
    rotate_left
    ·
     intro w'
     go_simp
     with_reducible rfl
    rotate_left
    ·
     simp only [Act.put, lS_, lZ_, lC_, i64_w, i32_w]
     rfl
    refine take_ (i := 10) (N := some 41) (v := ?_) (a' := ?_) #[true, true, true, true, true, true, true, true, true, true, true, true, false, false, false, false, false, false, false] rfl rfl (take_ofW HT_.out HW_.out (by kernel_rfl)) (fun _ _ _ h => h) (Or.inl ⟨by rfl, ?_⟩) hHeld ?_ ?_
    rotate_left
    ·
     rintro w' ⟨s0, s1, s2, s3, s4, s5, s6, s7⟩
     go_simp
     with_reducible rfl
    rotate_left
    ·
     simp only [Act.put, lS_, lZ_, lC_, i64_w, i32_w]
     rfl
    refine take_ (i := 12) (N := some 43) (v := ?_) (a' := ?_) #[true, true, true, true, true, true, true, true, true, true, true, true, true, false, false, false, false, false, false] rfl rfl (take_ofW HT_.out HW_.out (by kernel_rfl)) (fun _ _ _ h => h) (Or.inl ⟨by rfl, ?_⟩) hHeld ?_ ?_
    rotate_left
    ·
     rintro w' ⟨s0, s1, s2, s3, s4, s5, s6, s7⟩
     go_simp
     with_reducible rfl
    rotate_left
    ·
     simp only [Act.put, lS_, lZ_, lC_, i64_w, i32_w]
     rfl
    refine pure_ (i := 13) (N := some 44) (v := ?_) (a' := ?_) #[true, true, true, true, true, true, true, true, true, true, true, true, true, true, false, false, false, false, false] rfl rfl (any_of HT_.out (by kernel_rfl)) (fun _ _ _ h => h) (Or.inl ⟨by rfl, ?_⟩) ?_ ?_
    rotate_left
    ·
     intro w'
     go_simp
     with_reducible rfl
    rotate_left
    ·
     simp only [Act.put, lS_, lZ_, lC_, i64_w, i32_w]
     rfl
    refine pure_ (i := 14) (N := some 45) (v := ?_) (a' := ?_) #[true, true, true, true, true, true, true, true, true, true, true, true, true, true, true, false, false, false, false] rfl rfl (any_of HT_.out (by kernel_rfl)) (fun _ _ _ h => h) (Or.inl ⟨by rfl, ?_⟩) ?_ ?_
    rotate_left
    ·
     intro w'
     go_simp
     with_reducible rfl
    rotate_left
    ·
     simp only [Act.put, lS_, lZ_, lC_, i64_w, i32_w]
     rfl
    refine pure_ (i := 15) (N := some 46) (v := ?_) (a' := ?_) #[true, true, true, true, true, true, true, true, true, true, true, true, true, true, true, true, false, false, false] rfl rfl (any_of HT_.out (by kernel_rfl)) (fun _ _ _ h => h) (Or.inl ⟨by rfl, ?_⟩) ?_ ?_
    rotate_left
    ·
     intro w'
     go_simp
     with_reducible rfl
    rotate_left
    ·
     simp only [Act.put, lS_, lZ_, lC_, i64_w, i32_w]
     rfl
    refine pure_ (i := 16) (N := some 47) (v := ?_) (a' := ?_) #[true, true, true, true, true, true, true, true, true, true, true, true, true, true, true, true, true, false, false] rfl rfl (any_of HT_.out (by kernel_rfl)) (fun _ _ _ h => h) (Or.inl ⟨by rfl, ?_⟩) ?_ ?_
    rotate_left
    ·
     intro w'
     go_simp
     with_reducible rfl
    rotate_left
    ·
     simp only [Act.put, lS_, lZ_, lC_, i64_w, i32_w]
     rfl
    refine one_ (i := 17) (N := none) #[true, true, true, true, true, true, true, true, true, true, true, true, true, true, true, true, true, true, false] rfl rfl (one_of HT_.out (by kernel_rfl)) (by decide) (fun K hK => ?_)
    have hs16 : w15.cell? ⟨gb134, 0, none⟩ = some (.int .i64 0) := (blk_cell BK134.out 0).trans rfl
    have hfs16 := blk_frozen BK134.out 0
    have hns16_1 := NB147_134.out
    have hms16_1 := NB134_147.out
    have hs17 : w15.cell? ⟨gb134, 1, none⟩ = some (.bool false) := (blk_cell BK134.out 1).trans rfl
    have hfs17 := blk_frozen BK134.out 1
    have hns17_1 := NB147_134.out
    have hms17_1 := NB134_147.out
    have hs18 : w15.cell? ⟨gb134, 2, none⟩ = some (.int .i64 0) := (blk_cell BK134.out 2).trans rfl
    have hfs18 := blk_frozen BK134.out 2
    have hns18_1 := NB147_134.out
    have hms18_1 := NB134_147.out
    have hs19 : w15.cell? ⟨gb134, 3, none⟩ = some (.int .u64 0) := (blk_cell BK134.out 3).trans rfl
    have hfs19 := blk_frozen BK134.out 3
    have hns19_1 := NB147_134.out
    have hms19_1 := NB134_147.out
    refine skip_ (w1 := ?_) (by rfl) rfl ?_ ?_
    rotate_left
    ·
     go_simp
     rfl
    refine hK.out _ _ ⟨((cell_far (p := ⟨gb134, _, none⟩) NB147_134.out _).trans (((cell_far (p := ⟨gb134, _, none⟩) NB147_134.out _).trans (((cell_far (p := ⟨gb134, _, none⟩) NB147_134.out _).trans (((cell_far (p := ⟨gb134, _, none⟩) NB147_134.out _).trans (hHeld.1)))))))), ((cell_far (p := ⟨gb134, _, none⟩) NB147_134.out _).trans (((cell_far (p := ⟨gb134, _, none⟩) NB147_134.out _).trans (((cell_far (p := ⟨gb134, _, none⟩) NB147_134.out _).trans (((cell_far (p := ⟨gb134, _, none⟩) NB147_134.out _).trans (hHeld.2.1)))))))), ((cell_far (p := ⟨gb134, _, none⟩) NB147_134.out _).trans (((cell_far (p := ⟨gb134, _, none⟩) NB147_134.out _).trans (((cell_far (p := ⟨gb134, _, none⟩) NB147_134.out _).trans (((cell_far (p := ⟨gb134, _, none⟩) NB147_134.out _).trans (hHeld.2.2.1)))))))), ((cell_far (p := ⟨gb134, _, none⟩) NB147_134.out _).trans (((cell_far (p := ⟨gb134, _, none⟩) NB147_134.out _).trans (((cell_far (p := ⟨gb134, _, none⟩) NB147_134.out _).trans (((cell_far (p := ⟨gb134, _, none⟩) NB147_134.out _).trans (hHeld.2.2.2.1)))))))), ((cell_far (p := ⟨gb134, _, none⟩) NB147_134.out _).trans (((cell_far (p := ⟨gb134, _, none⟩) NB147_134.out _).trans (((cell_far (p := ⟨gb134, _, none⟩) NB147_134.out _).trans (((cell_far (p := ⟨gb134, _, none⟩) NB147_134.out _).trans (hHeld.2.2.2.2.1)))))))), ((cell_far (p := ⟨gb134, _, none⟩) NB147_134.out _).trans (((cell_far (p := ⟨gb134, _, none⟩) NB147_134.out _).trans (((cell_far (p := ⟨gb134, _, none⟩) NB147_134.out _).trans (((cell_far (p := ⟨gb134, _, none⟩) NB147_134.out _).trans (hHeld.2.2.2.2.2.1)))))))), ((cell_far (p := ⟨gb134, _, none⟩) NB147_134.out _).trans (((cell_far (p := ⟨gb134, _, none⟩) NB147_134.out _).trans (((cell_far (p := ⟨gb134, _, none⟩) NB147_134.out _).trans (((cell_far (p := ⟨gb134, _, none⟩) NB147_134.out _).trans (hHeld.2.2.2.2.2.2.1)))))))), ((cell_far (p := ⟨gb134, _, none⟩) NB147_134.out _).trans (((cell_far (p := ⟨gb134, _, none⟩) NB147_134.out _).trans (((cell_far (p := ⟨gb134, _, none⟩) NB147_134.out _).trans (((cell_far (p := ⟨gb134, _, none⟩) NB147_134.out _).trans (hHeld.2.2.2.2.2.2.2))))))))⟩ (fun hHeld => ?_)
    clear hK K
    refine pure_ (i := 18) (N := some 5) (v := ?_) (a' := ?_) #[true, true, true, true, true, true, true, true, true, true, true, true, true, true, true, true, true, true, true] rfl rfl (any_of HT_.out (by kernel_rfl)) (fun _ _ _ h => h) (Or.inl ⟨by rfl, ?_⟩) ?_ ?_
    rotate_left
    ·
     intro w'
     go_simp
     with_reducible rfl
    rotate_left
    ·
     simp only [Act.put, lS_, lZ_, lC_, i64_w, i32_w]
     rfl
    refine done_ (done_of HT_.out (by kernel_rfl)) ?_
    try go_wp2
    refine bodyPost_ret (results_ct rfl _ _ gb134 35 #[.int .i64 t135, .bool t138, .int .i64 (wrap64 ((wrap64 (4 * t141)) + t143)), .int .u64 (Go.bits .or .u64 9223372036854775808 (ji8))] (0, 0) _ rfl (bQ3 BK134.out) Try.underlying35 rfl (by kernel_rfl)) rfl ?_
    exact ⟨by first | rfl | (simp [errW_none, errW_some] <;> rfl) | (simp only [← hji6, ← hji8]; first | rfl | (simp [errW_none, errW_some] <;> rfl)) | (simp [*, errW_none, errW_some] <;> rfl), bR3 HB.out⟩
   ·
    rw [if_neg c7] at H
    exact absurd H (by simp)
  ·
   rw [if_neg c4] at H
   have c4b0 : (t135 == 1) = false := beq_eq_false_iff_ne.mpr c4
   have c4b1 : (t135 != 1) = true := bne_iff_ne.mpr c4
   simp only [Option.some.injEq, Prod.mk.injEq] at H
   obtain ⟨rfl, rfl, rfl, rfl, rfl⟩ := H
   go_enter Try.func27, Try.ntmps27
   go_wp2_with (first | ((with_reducible refine gD (N := 4) rfl ?_); refine bE3 4 #[.int .i64 0, .bool false, .int .i64 0, .int .u64 0] 35 ?hr ?_; (case hr => first | (go_simp; done) | (go_simp; rfl)); intro gb134 hg w20 hbox hb; have BK134 := Aside0.mk (hbox); have GW134 := Aside0.mk ((bZ3 hg HB.out)); have GE134 := Aside0.mk ((bZ3 hg HB.out)); replace HB := Aside0.mk (bS3 HB.out hb); clear hb hbox hg) | ((with_reducible refine gX_ 45 13 rfl rfl ?_); refine goesY_ (some 13) Try.func45 #[.int .i64 a0, .int .u64 a1] ?_; (with_reducible refine (shape_Kind.calls a0 a1 t135 none _ A3.out).mono ?_); rintro e w' ⟨rfl, ⟨nd, rfl⟩⟩; refine ⟨_, rfl, ?_⟩; (try simp only [errW_none, errW_some]); (try (rw [drewN_self w20]; generalize hq_ : World.drewN w20 _ = w20; have n0_ : Aside0 (w20.heap[gb134]? = some (.cells #[.int .i64 0, .bool false, .int .i64 0, .int .u64 0] 35 (0, 0))) := ⟨by rw [← hq_]; exact (bK3 BK134.out)⟩; have n1_ : Aside0 (Below w.heap.size w w20) := ⟨by rw [← hq_]; exact (bR3 HB.out)⟩; clear BK134 HB hq_; have BK134 := n0_; have HB := n1_; clear n0_ n1_)); obtain ⟨hcz21_0, hcz21_1, hcz21_2, hcz21_3, hfz21_0, hfz21_1, hfz21_2, hfz21_3⟩ := cl4 BK134.out))
   refine bodyPost_ret (results_ct rfl _ _ gb134 35 #[.int .i64 t135, .bool false, .int .i64 0, .int .u64 0] (0, 0) _ rfl (bQ3 BK134.out) Try.underlying35 rfl (by kernel_rfl)) rfl ?_
   exact ⟨eR3, bR3 HB.out⟩
 ·
  rw [if_neg (show ¬ (some q137).isNone = true by simp)] at H
  try simp only [Option.getD_some] at H
  try simp only [errW_none, errW_some]
  simp only [Option.some.injEq, Prod.mk.injEq] at H
  obtain ⟨rfl, rfl, rfl, rfl, rfl⟩ := H
  go_enter Try.func27, Try.ntmps27
  go_wp2_with (first | ((with_reducible refine gD (N := 4) rfl ?_); refine bE3 4 #[.int .i64 0, .bool false, .int .i64 0, .int .u64 0] 35 ?hr ?_; (case hr => first | (go_simp; done) | (go_simp; rfl)); intro gb134 hg w22 hbox hb; have BK134 := Aside0.mk (hbox); have GW134 := Aside0.mk ((bZ3 hg HB.out)); have GE134 := Aside0.mk ((bZ3 hg HB.out)); replace HB := Aside0.mk (bS3 HB.out hb); clear hb hbox hg) | ((with_reducible refine gX_ 45 13 rfl rfl ?_); refine goesY_ (some 13) Try.func45 #[.int .i64 a0, .int .u64 a1] ?_; (with_reducible refine (shape_Kind.calls a0 a1 t135 (some q137) _ A3.out).mono ?_); rintro e w' ⟨rfl, ⟨nd, rfl⟩⟩; refine ⟨_, rfl, ?_⟩; (try simp only [errW_none, errW_some]); (try (rw [drewN_self w22]; generalize hq_ : World.drewN w22 _ = w22; have n0_ : Aside0 (w22.heap[gb134]? = some (.cells #[.int .i64 0, .bool false, .int .i64 0, .int .u64 0] 35 (0, 0))) := ⟨by rw [← hq_]; exact (bK3 BK134.out)⟩; have n1_ : Aside0 (Below w.heap.size w w22) := ⟨by rw [← hq_]; exact (bR3 HB.out)⟩; clear BK134 HB hq_; have BK134 := n0_; have HB := n1_; clear n0_ n1_)); obtain ⟨hcz23_0, hcz23_1, hcz23_2, hcz23_3, hfz23_0, hfz23_1, hfz23_2, hfz23_3⟩ := cl4 BK134.out))
  refine bodyPost_ret (results_ct rfl _ _ gb134 35 #[.int .i64 t135, .bool false, .int .i64 0, .int .u64 0] (0, 0) _ rfl (bQ3 BK134.out) Try.underlying35 rfl (by kernel_rfl)) rfl ?_
  exact ⟨eR3, bR3 HB.out⟩
end Go.Proofs.Ytjlaijaadclghaa.F
